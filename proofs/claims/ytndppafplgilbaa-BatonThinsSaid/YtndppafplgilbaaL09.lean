/-
  larchlaw04.BatonThins returns true for every input. No condition. (Part 9 of 49; joined by program.)
-/
import Derived.Test.YtndppafplgilbaaL08
import Derived.Conc.Token
set_option linter.unusedVariables false
set_option linter.unusedSimpArgs false
set_option linter.unusedSectionVars false
set_option maxRecDepth 100000
namespace Go.Proofs.Ytndppafplgilbaa
open Go Go.Conc
open Go.ConcN (sumTo upd sumTo_upd upd_ne upd_same)
section
variable {P:Program} {K:World→Prop} {S:Nat→Loc→Prop} {Shun:Loc→Prop} {st:Addr} {Rl:Nat→Role} {A:Nat→Bool} {h:Nat} {T:Trace} {gs:Array Goroutine} {w:World} {q:Nat→Nat}
theorem heap_setChan_ne (w:World) {c c':Nat} (cap:Nat) (buf:Array Value) (cl:Bool) (s r:Nat) (tm:Bool) (h:c≠c'):(w.setChan c cap buf cl s r tm).heap[c']?=w.heap[c']?:=by
  simp [World.setChan,Array.getElem?_setIfInBounds_ne h]
theorem heap_setChan_self (w:World) {c:Nat} {o:Obj} (ho:w.heap[c]?=some o) (cap:Nat) (buf:Array Value) (cl:Bool) (s r:Nat) (tm:Bool):(w.setChan c cap buf cl s r tm).heap[c]?=some (.chan cap buf cl s r tm):=by
  have hlt:c < w.heap.size:=(Array.getElem?_eq_some_iff.1 ho).1
  simp [World.setChan,hlt]
theorem cell_setChan {w:World} {c:Nat} {o:Obj} (ho:w.heap[c]?=some o) (hne:∀ x e f,o≠.cells x e f) (cap:Nat) (buf:Array Value) (cl:Bool) (s r:Nat) (tm:Bool) (a:Addr):(w.setChan c cap buf cl s r tm).cell? a=w.cell? a∧(w.setChan c cap buf cl s r tm).frozen? a=w.frozen? a:=by
  by_cases e:a.block=c
  · have h1:=heap_setChan_self w ho cap buf cl s r tm
    unfold World.cell? World.frozen?
    rw [e,h1,ho]
    cases o <;> first | exact ⟨rfl,rfl⟩ | exact absurd rfl (hne _ _ _)
  · unfold World.cell? World.frozen?
    rw [heap_setChan_ne w cap buf cl s r tm (fun x=>e x.symm)]
    exact ⟨rfl,rfl⟩
def AtSend (P:Program) (main:Bool) (S:Nat→Loc→Prop) (Shun:Loc→Prop) (Rl:Nat→Role) (h c:Nat) (v:Value) (a a₂:Goroutine):Prop :=
  a.status=.running∧∃ z' es,(∀ e∈es,EvH S Shun Rl h e∧(MemAct.ofEvent e).touch?=none)∧∀ w,stepG P main a w=.comm a₂ #[scase c v z'] true .send w es
theorem Core.pass (hKc:∀ w c cap buf cl a b tm,(∃ x,(Rl x).has c)→K w→K (w.setChan c cap buf cl a b tm)) (C:Hold P K S Shun st Rl A h T gs w q) {j c:Nat} {z:Value} {ok:Bool} {home:Goroutine→Prop} (hj:Rl j=.seat c z ok home) (hjh:j≠h) {k:Nat}
    (hc:w.heap[c]?=some (.chan 0 #[] false k k false)) {gs':Array Goroutine} {T':Trace} {H':Goroutine} (hsz:gs'.size=gs.size) (hoth:∀ x,x≠h→x≠j→gs'[x]?=gs[x]?) (hH:gs'[h]?=some H') (hDeaf:∀ x,Deaf T' x=Deaf T x)
    {r':Role} {S':Loc→Prop} {nh:Nat} (hr1:∀ c',r'.has c'→(∀ x,x≠h→¬ (Rl x).has c')∧∃ cap k,w.heap[c']?=some (.chan cap #[] false k k false)) (hr2:r'=.done→A h=true∧st.spot=none) (hr3:A h=true→r'≠.leave)
    (hlow:LowT T' w.heap.size) (hSl:∀ x,S' (.cell x)→x.block < w.heap.size) (hafter:IdleR P K (fun g=>if g=h then S' else S g) st T' h nh H' r') (hpast:PastW Shun (fun g=>if g=h then S' else S g) (fun g=>g≠j∧(upd Rl h r' g).sits) (fun g=>g≠j∧(upd Rl h r' g).sits) j T') :
    Hold P K (fun g=>if g=h then S' else S g) Shun st (upd Rl h r') A j T' gs' (w.setChan c 0 #[] false (k + 1) (k + 1) false) (upd q h nh):=by
  have hRle:∀ x,x≠h→upd Rl h r' x=Rl x:=fun x hx=>upd_ne Rl _ hx
  have hRi:upd Rl h r' h=r':=upd_same ..
  refine ⟨fun x y hx hy=>?_,fun x c' _ hc'=>?_,fun _ _ hx=>hx.elim,fun _ hx=>hx.elim,fun x x' c' h1 h2=>?_,fun x hx=>by rw [hDeaf];exact C.above x (by omega),fun x hx hd=>?_,hpast,C.shun,hKc _ c _ _ _ _ _ _ ⟨j,by rw [hj];rfl⟩ C.keep,fun hs=>?_,by rw [hsz];exact C.few,by simpa [World.setChan] using hlow,fun x y h1 h2=>?_,fun x hx hsx hAx=>?_⟩
  · by_cases e:x=h
    · subst e
      rw [hH] at hy
      obtain rfl:=Option.some.inj hy
      rw [upd_same,hRi];exact hafter
    · rw [hoth x e hx] at hy
      rw [upd_ne q nh e,hRle x e]
      have hi:=C.idle x y e hy
      cases es:Rl x with
      | seat c z ok home=>rw [es] at hi;show SitsS _ _ _ (if x=h then S' else S x) _ _ _ _ _ _;rw [if_neg e];exact hi
      | done=>rw [es] at hi;exact ⟨hi.1,by rw [hDeaf];exact hi.2⟩
      | leave=>rw [es] at hi;exact ⟨hi.1,by rw [hDeaf];exact hi.2⟩
  · by_cases ec:c=c'
    · exact ⟨0,k + 1,by rw [← ec];exact heap_setChan_self w hc _ _ _ _ _ _⟩
    · rw [heap_setChan_ne w _ _ _ _ _ _ ec]
      by_cases e:x=h
      · subst e;rw [hRi] at hc';exact (hr1 c' hc').2
      · rw [hRle x e] at hc';exact C.chans x c' (fun z=>z) hc'
  · by_cases e1:x=h <;> by_cases e2:x'=h
    · rw [e1,e2]
    · subst e1;rw [hRi] at h1;rw [hRle x' e2] at h2;exact absurd h2 ((hr1 c' h1).1 x' e2)
    · subst e2;rw [hRi] at h2;rw [hRle x e1] at h1;exact absurd h1 ((hr1 c' h2).1 x e1)
    · rw [hRle x e1] at h1;rw [hRle x' e2] at h2;exact C.inj x x' c' h1 h2
  · by_cases e:x=h
    · subst e;rw [hRi] at hd;exact hr2 hd
    · rw [hRle x e] at hd;exact C.aliveD x e hd
  · have:=cell_setChan hc (fun _ _ _ h=>by cases h) 0 #[] false (k + 1) (k + 1) false st
    rw [this.1,this.2,hsz];exact C.cell hs
  · have e1:(w.setChan c 0 #[] false (k + 1) (k + 1) false).heap.size=w.heap.size:=by simp [World.setChan]
    rw [e1]
    by_cases e:x=h
    · subst e;rw [if_pos rfl] at h2;exact hSl y h2
    · rw [if_neg e] at h2;rw [hRle x e] at h1;exact C.slow x y h1 h2
  · by_cases e:x=h
    · subst e;rw [hRi];exact hr3 hAx
    · rw [hRle x e];exact C.aliveC x (by omega) e hAx
theorem past_give {Sh:Loc→Prop} {Rl:Nat→Role} {h j:Nat} {t:Trace} {r':Role} {S':Loc→Prop} (H:PastW Sh S (fun g=>¬ g=h∧(Rl g).sits) (fun g=>¬ g=h∧(Rl g).sits) h t) (hh:Deaf t h=0) (hj:(Rl j).sits) (hjh:j≠h)
    (hS:∀ l,S' l→l.isMemory=true∧¬ Sh l) (fh:FuncId) (ph:String) (fj:FuncId) (pj:String) (c k cap:Nat) :
    PastW Sh (fun g=>if g=h then S' else S g) (fun g=>g≠j∧(upd Rl h r' g).sits) (fun g=>g≠j∧(upd Rl h r' g).sits) j (t ++ met h j fh ph fj pj c k cap):=by
  classical
  have H2:=(PastR.join H (fun x=>x.1 rfl) hS hh (decide r'.sits)).give hh (.inl ⟨hjh,hj⟩) fh ph fj pj c k cap
  refine PastR.fewer H2 (fun g hg=>?_) (fun g hg=>hg) fun i g _ hl=>.inl ⟨hl.2,?_⟩
  · by_cases e:g=h
    · exact .inr e
    · exact .inl ⟨e,by have:=hg.2;rwa [upd_ne Rl _ e] at this⟩
  · rcases hl.1 with x | ⟨x,rfl⟩
    · rw [upd_ne Rl _ x.1];exact x.2
    · rw [upd_same];simpa using x
def Given (P:Program) (K:World→Prop) (S:Nat→Loc→Prop) (Shun:Loc→Prop) (st:Addr) (Rl:Nat→Role) (A:Nat→Bool) (h:Nat) (r':Role) (S':Loc→Prop) (j c:Nat) (ok:Bool) (home:Goroutine→Prop) (n:Nat) (w:World) (v:Value) (m:Machine) (t:Trace):Prop :=
  ∃ (gs':Array Goroutine) (g₂:Goroutine) (w₁:World) (k:Nat) (sl':Option (Nat × Nat)) (q':Nat→Nat) (R1:Nat→Role) (A':Nat→Bool),m=crowd gs' (w₁.setChan c 0 #[] false (k + 1) (k + 1) false) sl'∧gs'.size=n∧gs'[j]?=some (Go.Conc.served g₂ (recvd ok v true))∧home g₂ ∧
    w₁.heap[c]?=some (.chan 0 #[] false k k false)∧RW st w w₁∧Same Rl R1∧Deaf t j=0∧((∀ x,x=h∨(Rl x).sits∨n≤x→A' x=A x)∧∀ x,A' x=true→A x=true)∧(∀ x,(Rl x).sits∨n≤x→R1 x=Rl x)∧Hold P K (fun g=>if g=h then S' else S g) Shun st (upd R1 h r') A' j t gs' (w₁.setChan c 0 #[] false (k + 1) (k + 1) false) q'
theorem rw_heap {w w₁:World} (r:RW st w w₁) {c:Nat} (hc:c≠st.block):w₁.heap[c]?=w.heap[c]?:=by
  rcases r with ⟨d,rfl⟩ | ⟨n,n₁,d,_,_,rfl⟩
  · rfl
  · exact setCell_ne w st _ hc
theorem give (hKat:∀ w d,K w→K (w.at d)) (hKst:∀ w x,K w→K (w.setCell st x)) (hKc:∀ w c cap buf cl a b tm,(∃ x,(Rl x).has c)→K w→K (w.setChan c cap buf cl a b tm)) (hstc:∀ x c,(Rl x).has c→c≠st.block)
    {a a₂:Goroutine} {j c:Nat} {z v:Value} {ok:Bool} {home:Goroutine→Prop} {sl:Option (Nat × Nat)} (hjh:j≠h) (hjlt:j < gs.size) (hj:Rl j=.seat c z ok home) (ha:gs[h]?=some a) (hat:AtSend P (h == 0) S Shun Rl h c v a a₂) (C:Hold P K S Shun st Rl A h T gs w q) (hdeaf:Deaf T h=0)
    {k:Nat} (hc:w.heap[c]?=some (.chan 0 #[] false k k false)) {r':Role} {S':Loc→Prop} {nh:Nat} (hS:∀ l,S' l→l.isMemory=true∧¬ Shun l) (hSl:∀ x,S' (.cell x)→x.block < w.heap.size)
    (hr1:∀ c',r'.has c'→c'≠st.block∧(∀ x,x≠h→¬ (Rl x).has c')∧∃ cap k,w.heap[c']?=some (.chan cap #[] false k k false)) (hr2:r'=.done→A h=true∧st.spot=none) (hr3:A h=true→r'≠.leave)
    (hafter:∀ T',Deaf T' h=0→IdleR P K (fun g=>if g=h then S' else S g) st T' h nh (Go.Conc.served a₂ undef) r') :
    ∃ N m' T',runNT P N (crowd gs w sl) T=(.next m',T')∧Given P K S Shun st Rl A h r' S' j c ok home gs.size w v m' T':=by
  obtain ⟨hrun,z',es,hes,hsend⟩:=hat
  refine runs_until (P:=P)
    (Inv:=fun μ m t=>Given P K S Shun st Rl A h r' S' j c ok home gs.size w v m t∨∃ gs₁ w₁ sl₁ q₁ R1 A1,∃ pk:Bool,m=crowd gs₁ w₁ sl₁∧gs₁.size=gs.size∧gs₁[h]?=some (if pk then parked a₂ #[scase c v z'] .send else a) ∧
      Hold P K S Shun st R1 A1 h t gs₁ w₁ q₁∧Same Rl R1∧RW st w w₁∧((∀ x,x=h∨(Rl x).sits∨gs.size≤x→A1 x=A x)∧∀ x,A1 x=true→A x=true)∧(∀ x,(Rl x).sits∨gs.size≤x→R1 x=Rl x)∧Deaf t h=0∧(pk=true→0 < q₁ j)∧μ=sumTo gs₁.size q₁ + (if pk then 0 else 1))
    (fun μ m t hInv=>?_) _ _ T (.inr ⟨gs,w,sl,q,Rl,A,false,rfl,rfl,ha,C,Same.refl _,RW.refl,⟨fun _ _=>rfl,fun _ h=>h⟩,fun _ _=>rfl,hdeaf,by simp,rfl⟩)
  rcases hInv with hdone | ⟨gs₁,w₁,sl₁,q₁,R1,A1,pk,rfl,hsz,ha₁,C₁,sm,rw₁,hAA,hRR,hdf,hpk,hμ⟩
  · exact .inl hdone
  refine .inr ?_
  obtain ⟨gj,hgj⟩:∃ gj,gs₁[j]?=some gj:=⟨gs₁[j]'(by omega),Array.getElem?_eq_getElem (by omega)⟩
  have hlth:h < gs₁.size:=(Array.getElem?_eq_some_iff.1 ha₁).1
  have hRj:R1 j=Rl j:=hRR j (.inl (by rw [hj];trivial))
  have hAh:A1 h=A h:=hAA.1 h (.inl rfl)
  have hR1j:R1 j=.seat c z ok home:=hRj.trans hj
  have hSj:SitsS P (j == 0) K (S j) c z ok home (q₁ j) gj:=by have:=C₁.idle j gj hjh hgj;rwa [hR1j] at this
  have hsome:∃ (i:Nat) (g:Goroutine),gs₁[i]?=some g∧g.status=.running:=by
    cases pk with
    | false=>exact ⟨h,a,ha₁,hrun⟩
    | true=>exact ⟨j,gj,hgj,(SitsS.status C₁.keep hSj).elim (·.1) (fun z=>by have:=hpk rfl;omega)⟩
  obtain ⟨i,g,d,sl',hi,hg,hst⟩:=crowd_pick (P:=P) (w:=w₁) (sl:=sl₁) (C₁.awake ha₁ (by cases pk <;> simp [hrun,parked])) hsome
  have Cd:Hold P K S Shun st R1 A1 h t gs₁ (w₁.at d) q₁:=Core.at hKat C₁ d
  have rwd:RW st w (w₁.at d):=rw₁.trans (RW.at d)
  have hcb:c≠st.block:=hstc j c (by rw [hj];rfl)
  have hcd:(w₁.at d).heap[c]?=some (.chan 0 #[] false k k false):=(rw_heap rw₁ hcb).trans hc
  have hstc1:∀ x c,(R1 x).has c→c≠st.block:=fun x c hc=>hstc x c ((sm.has x c).1 hc)
  have hKc1:∀ w c cap buf cl a b tm,(∃ x,(R1 x).has c)→K w→K (w.setChan c cap buf cl a b tm):=fun w c cap buf cl a b tm ⟨x,hx⟩=>hKc w c cap buf cl a b tm ⟨x,(sm.has x c).1 hx⟩
  have fin:∀ (gs':Array Goroutine) (ops₀:Array MemOp) (g₂:Goroutine),gs'.size=gs₁.size→(∀ x,x≠h→x≠j→gs'[x]?=gs₁[x]?)→gs'[h]?=some (Go.Conc.served a₂ undef)→gs'[j]?=some (Go.Conc.served g₂ (recvd ok v true))→home g₂ →
      PastW Shun S (fun g=>¬ g=h∧(R1 g).sits) (fun g=>¬ g=h∧(R1 g).sits) h (t ++ ops₀)→(∀ x,Deaf (t ++ ops₀) x=Deaf t x)→LowT (t ++ ops₀) w₁.heap.size →
      Given P K S Shun st Rl A h r' S' j c ok home gs.size w v (crowd gs' ((w₁.at d).setChan c 0 #[] false (k + 1) (k + 1) false) sl') (t ++ (ops₀ ++ met h j a₂.frame.fn a₂.frame.place g₂.frame.fn g₂.frame.place c k 0)):=by
    intro gs' ops₀ g₂ hsz' hoth hH hJ hhome p1 hD0 hL0
    have hDeaf:∀ x,Deaf (t ++ (ops₀ ++ met h j a₂.frame.fn a₂.frame.place g₂.frame.fn g₂.frame.place c k 0)) x=Deaf t x:=fun x=>by rw [← Array.append_assoc,Deaf_quiet (met_quiet _ _ _ _ _ _ _ _ _ x),hD0]
    have p2:=past_give (r':=r') p1 ((hD0 h).trans hdf) (by rw [hR1j];trivial) hjh hS a₂.frame.fn a₂.frame.place g₂.frame.fn g₂.frame.place c k 0
    rw [Array.append_assoc] at p2
    have hjm:Deaf t j=0:=C₁.past.hears j ⟨hjh,by rw [hR1j];trivial⟩
    refine ⟨gs',g₂,w₁.at d,k,sl',upd q₁ h nh,R1,A1,rfl,hsz'.trans hsz,hJ,hhome,hcd,rwd,sm,(hDeaf j).trans hjm,hAA,hRR,Core.pass hKc1 Cd hR1j hjh hcd hsz' hoth hH hDeaf (fun c' hc'=>?_) (fun e=>⟨hAh.trans (hr2 e).1,(hr2 e).2⟩) (fun e=>hr3 (hAh.symm.trans e)) (by rw [← Array.append_assoc];exact hL0.mute (met_mute _ _ _ _ _ _ _ _ _)) (fun x hx=>by have:=hSl x hx;rw [← rw₁.size] at this;exact this) (hafter _ ((hDeaf h).trans hdf)) p2⟩
    obtain ⟨h1,h2,cap,k',h3⟩:=hr1 c' hc'
    exact ⟨fun x hx hh=>h2 x hx ((sm.has x c').1 hh),cap,k',(rw_heap rwd h1).trans h3⟩
  have hμpos:0 < μ:=by
    cases pk with
    | false=>simp at hμ;omega
    | true =>
      have h1:=hpk rfl
      have h2:q₁ j≤sumTo gs₁.size q₁:=Go.ConcN.le_sumTo (f:=q₁) (by omega)
      simp at hμ;omega
  by_cases e:i=h
  · subst e
    cases pk with
    | true=>rw [ha₁] at hi;obtain rfl:=Option.some.inj hi;cases hg
    | false =>
      obtain rfl:g=a:=by rw [ha₁] at hi;exact (Option.some.inj hi).symm
      obtain ⟨hs,hdf'⟩:=evH_ops (i:=i) (fn:=g.frame.fn) (pos:=g.frame.place) (fun e he=>(hes e he).1.same sm)
      have hpast1:=PastR.appH C₁.past (u:=MemOp.ofEvents i g.frame.fn g.frame.place es) own_of (fun op hop b hb=>⟨fun g' hg' hS'=>(hs op hop b hb).1 g' hg' hS',(hs op hop b hb).2⟩) (fun hM=>absurd rfl hM.1)
      have hdeaf1:∀ x,Deaf (t ++ MemOp.ofEvents i g.frame.fn g.frame.place es) x=Deaf t x:=fun x=>by
        by_cases ex:x=i
        · subst ex;exact hdf' t
        · exact Deaf_other t (fun z=>ex z.symm) _ own_of
      have hoff:∀ (x:Nat) (y:Goroutine),x≠j→(gs₁.setIfInBounds i ph)[x]?=some y→offersAt y c false=[]:=by
        intro x y hxj hy
        rcases getElem?_stand gs₁ i x y hy with ⟨_,rfl⟩ | ⟨hx,hy'⟩
        · exact offersAt_ph _ _
        · exact Core.noRecvAt Cd hx hy' fun hh=>hxj (C₁.inj x j c hh (by rw [hR1j];rfl))
      rcases hSj with ⟨kk,w₀,hq,hG⟩ | ⟨hq0,g₀,g₂,rfl,hat⟩
      · have hjr:gj.status=.running:=(SitsS.status C₁.keep (.inl ⟨kk,w₀,hq,hG⟩)).elim (·.1) (fun z=>by omega)
        have hp:partners (gs₁.setIfInBounds i ph) c false=[]:=partners_nil fun x y hy=>by
          by_cases hxj:x=j
          · subst hxj
            rw [stand_get hjh hgj] at hy
            obtain rfl:=Option.some.inj hy
            exact offersAt_of_not_blocked (by rw [hjr];simp) _ _
          · exact hoff x y hxj hy
        have hw:∀ cc∈#[scase c v z'],NoWays (w₁.at d) (gs₁.setIfInBounds i ph) cc:=by
          intro cc hcc
          simp only [List.mem_toArray,List.mem_cons,List.not_mem_nil,or_false] at hcc
          subst hcc
          exact ways_send_none hcd (Nat.le_refl _) hp
        refine ⟨_,_,sumTo gs₁.size q₁ + 0,by rw [hst];exact crowd_waits (sl:=sl') hi (hsend (w₁.at d)) hw,by simp at hμ;omega,.inr ⟨_,w₁.at d,sl',q₁,R1,A1,true,rfl,by simpa using hsz,Array.getElem?_setIfInBounds_self_of_lt hlth,?_,sm,rwd,hAA,hRR,(hdeaf1 i).trans hdf,fun _=>by omega,by simp⟩⟩
        refine ⟨fun x y hx hy=>?_,Cd.chans,fun _ _ hx=>hx.elim,fun _ hx=>hx.elim,Cd.inj,fun j' hj'=>?_,Cd.aliveD,hpast1,Cd.shun,Cd.keep,by simpa using Cd.cell,by simpa using Cd.few,Cd.low.mute (touchNone_of fun e he=>(hes e he).2),Cd.slow,fun x hx=>Cd.aliveC x (by simpa using hx)⟩
        · rw [Array.getElem?_setIfInBounds_ne (fun z=>hx z.symm)] at hy
          have hi:=Cd.idle x y hx hy
          cases es':R1 x with
          | seat c z ok home=>rw [es'] at hi;exact hi
          | done=>rw [es'] at hi;exact ⟨hi.1,by rw [hdeaf1];exact hi.2⟩
          | leave=>rw [es'] at hi;exact ⟨hi.1,by rw [hdeaf1];exact hi.2⟩
        · rw [hdeaf1];exact C₁.above j' (by simpa using hj')
      · have hp:partners (gs₁.setIfInBounds i ph) c false=[(j,0)]:=by
          rw [partners_one (stand_get hjh hgj) fun x y hxj hy=>hoff x y hxj hy,offersAt_parked_recv]
          simp
        refine ⟨_,_,0,by rw [hst];exact crowd_send_meets (sl:=sl') hi (hsend (w₁.at d)) hcd hjh hgj hp,hμpos,.inl ?_⟩
        exact fin _ _ g₂ (by simp) (fun x hx hxj=>by rw [Array.getElem?_setIfInBounds_ne (fun z=>hx z.symm),Array.getElem?_setIfInBounds_ne (fun z=>hxj z.symm)]) (Array.getElem?_setIfInBounds_self_of_lt (by simpa using hlth))
          (by rw [Array.getElem?_setIfInBounds_ne (fun z=>hjh z.symm),Array.getElem?_setIfInBounds_self_of_lt (by omega),finishComm_recv]) hat.2.2.2.2.1 hpast1 hdeaf1 (Cd.low.mute (touchNone_of fun e he=>(hes e he).2))
  · by_cases ej:i=j∧pk=true∧∃ g₂,AtS P (i == 0) K (S i) c z ok home g g₂
    · obtain ⟨rfl,rfl,g₂,hat⟩:=ej
      obtain ⟨_,_,_,_,hhome,esj,hesj,hstp⟩:=hat
      obtain ⟨hr,hd⟩:=evI_ops (i:=i) (fn:=g.frame.fn) (pos:=g.frame.place) hesj
      have hp:partners (gs₁.setIfInBounds i ph) c true=[(h,0)]:=by
        rw [partners_one (stand_get (Ne.symm hjh) ha₁) fun x y hxh hy=>by
          rcases getElem?_stand gs₁ i x y hy with ⟨_,rfl⟩ | ⟨_,hy'⟩
          · exact offersAt_ph _ _
          · exact Core.noSend Cd hxh hy' _]
        simp [offersAt_parked_send]
      refine ⟨_,_,0,by rw [hst];exact crowd_recv_meets (sl:=sl') hi (hstp _ Cd.keep) hcd (Ne.symm hjh) ha₁ hp,hμpos,.inl ?_⟩
      exact fin _ _ g₂ (by simp) (fun x hx hxj=>by rw [Array.getElem?_setIfInBounds_ne (fun z=>hxj z.symm),Array.getElem?_setIfInBounds_ne (fun z=>hx z.symm)])
        (by rw [Array.getElem?_setIfInBounds_ne hjh,Array.getElem?_setIfInBounds_self_of_lt hlth,finishComm_send]) (by rw [Array.getElem?_setIfInBounds_self_of_lt (by simp;omega),finishComm_recv]) hhome
        (PastR.appRead C₁.past (fun _=>Knows.app _) ⟨hjh,by rw [hR1j];trivial⟩ own_of hr (hd t))
        (fun x=>by
          by_cases ex:x=i
          · subst ex;exact hd t
          · exact Deaf_other t (fun z=>ex z.symm) _ own_of)
        (Cd.low.app (Nat.le_refl _) fun op hop b x hb hx=>Cd.slow i x (by rw [hR1j];trivial) (hx ▸ (hr op hop b hb).2))
    · obtain ⟨gs',ops,q',w',R2,A2,hrt,hsz',hsp,hoth,hsit,hq0,hrw,hkind,hown,C',hlt⟩:=Core.by_step (sl:=sl') hKat hKst (fun t u i=>Knows.app u) Cd hi e hg
        (fun x gx w' hx hgx hch hw'=>by
          subst hx;rw [ha₁] at hgx;obtain rfl:=Option.some.inj hgx
          cases pk with
          | false=>exact again_running _ (.inl hrun)
          | true =>
            have:w'.heap[c]?=some (.chan 0 #[] false k k false):=by
              rcases hw' with rfl | ⟨v',rfl⟩
              · exact hcd
              · rw [setCell_ne _ st _ hcb];exact hcd
            exact again_send_open this) hstc1
        (fun c' z₁ ok' home' g₂ hs' hat=>⟨fun hD=>hD,fun x gx hx hgx=>by
          subst hx;rw [ha₁] at hgx;obtain rfl:=Option.some.inj hgx
          cases pk with
          | false=>exact offersAt_of_not_blocked (by simp [hrun]) _ _
          | true =>
            simp only [if_true]
            rw [offersAt_parked_send,if_neg]
            intro ec
            have hij:i=j:=C₁.inj i j c (by rw [hs'];exact ec) (by rw [hR1j];rfl)
            subst hij
            rw [hR1j] at hs'
            cases hs'
            exact ej ⟨rfl,rfl,g₂,hat⟩⟩)
      have hil:i < gs₁.size:=(Array.getElem?_eq_some_iff.1 hi).1
      have key:∀ x,(Rl x).sits∨gs.size≤x→R2 x=R1 x∧A2 x=A1 x:=fun x hx=>by
        by_cases ex:x=i
        · subst ex
          rcases hx with hx | hx
          · exact hsit ((sm.sits x).2 hx)
          · omega
        · exact (hoth x ex).2
      have hA2:∀ x,x=h∨(Rl x).sits∨gs.size≤x→A2 x=A x:=fun x hx=>by
        rcases hx with rfl | hx
        · exact ((hoth x (fun z=>e z.symm)).2.2).trans (hAA.1 x (.inl rfl))
        · exact (key x hx).2.trans (hAA.1 x (.inr hx))
      refine ⟨_,_,sumTo gs'.size q' + (if pk then 0 else 1),by rw [hst];exact hrt,by rw [hsz'];omega,.inr ⟨gs',w',sl',q',R2,A2,pk,rfl,hsz'.trans hsz,by rw [hsp h rfl];exact ha₁,C',sm.trans (same_of (fun x hx=>(hoth x hx).2.1) hkind),rwd.trans hrw.1,⟨hA2,fun x hx=>hAA.2 x (hrw.2 x hx)⟩,fun x hx=>(key x hx).1.trans (hRR x hx),
        by rw [Deaf_other t e ops hown];exact hdf,fun hp=>?_,rfl⟩⟩
      subst hp
      by_cases hij:j=i
      · subst hij
        rcases Nat.eq_zero_or_pos (q' j) with h0 | h0
        · obtain ⟨g₂,hat⟩:=hq0 c z ok home hR1j h0
          exact absurd ⟨rfl,rfl,g₂,hat⟩ ej
        · exact h0
      · rw [(hoth j hij).1];exact hpk rfl
end
end Go.Proofs.Ytndppafplgilbaa
namespace Go.Proofs.Ytndppafplgilbaa
open Go Go.Conc
open Go.ConcN (sumTo upd sumTo_upd upd_ne upd_same)
section
variable {P:Program} {K:World→Prop} {S:Nat→Loc→Prop} {Shun:Loc→Prop} {st:Addr} {Rl:Nat→Role} {A:Nat→Bool} {h:Nat} {T:Trace} {gs:Array Goroutine} {w:World} {q:Nat→Nat}
theorem picked (hKat:∀ w d,K w→K (w.at d)) (hKst:∀ w x,K w→K (w.setCell st x)) {R0:Nat→Role} {w₀:World} (hstc:∀ x c,(R0 x).has c→c≠st.block) {a:Goroutine} (hrun:a.status=.running) :
    ∀ (μ:Nat) (gs:Array Goroutine) (w:World) (sl:Option (Nat × Nat)) (T:Trace) (q:Nat→Nat) (Rl:Nat→Role) (A:Nat→Bool),sumTo gs.size q=μ→RW st w₀ w→gs[h]?=some a→Hold P K S Shun st Rl A h T gs w q→Same R0 Rl →
      ∃ N gs₁ w₁ d sl₁ sl₂ T₁ q₁ R1 A1,runNT P N (crowd gs w sl) T=(.next (crowd gs₁ w₁ sl₁),T₁)∧stepT P (crowd gs₁ w₁ sl₁)=runT P (crowd gs₁ (w₁.at d) sl₂) h∧gs₁.size=gs.size∧gs₁[h]?=some a∧Hold P K S Shun st R1 A1 h T₁ gs₁ (w₁.at d) q₁∧Same R0 R1∧RW st w₀ (w₁.at d)∧Deaf T₁ h=Deaf T h ∧
        ((∀ x,x=h∨(R0 x).sits∨gs.size≤x→A1 x=A x)∧∀ x,A1 x=true→A x=true)∧∀ x,(R0 x).sits∨gs.size≤x→R1 x=Rl x:=by
  intro μ
  induction μ using Nat.strongRecOn with
  | _ μ inner =>
    intro gs w sl T q Rl A hμ r ha C sm
    obtain ⟨i,g,d,sl',hi,hg,hstep⟩:=crowd_pick (P:=P) (w:=w) (sl:=sl) (C.awake ha (.inl hrun)) ⟨h,a,ha,hrun⟩
    have Cd:Hold P K S Shun st Rl A h T gs (w.at d) q:=Core.at hKat C d
    have r1:RW st w₀ (w.at d):=r.trans (RW.at d)
    have hstc1:∀ x c,(Rl x).has c→c≠st.block:=fun x c hc=>hstc x c ((sm.has x c).1 hc)
    by_cases e:i=h
    · subst e
      exact ⟨0,gs,w,d,sl,sl',T,q,Rl,A,rfl,hstep,rfl,ha,Cd,sm,r1,rfl,⟨fun _ _=>rfl,fun _ h=>h⟩,fun _ _=>rfl⟩
    · obtain ⟨gs',ops,q',w',Rl',A',hrt,hsz',hsp,hoth,hsit,_,hrw,hkind,hown,C',hlt⟩:=Core.by_step (sl:=sl') hKat hKst (fun t u i=>Knows.app u) Cd hi e hg
        (fun x gx w' hx hgx _ _=>by subst hx;rw [ha] at hgx;obtain rfl:=Option.some.inj hgx;exact again_running _ (.inl hrun)) hstc1
        (fun c z ok home g₂ _ _=>⟨fun hD=>hD,fun x gx hx hgx=>by subst hx;rw [ha] at hgx;obtain rfl:=Option.some.inj hgx;exact offersAt_of_not_blocked (by rw [hrun];simp) _ _⟩)
      have sm':Same R0 Rl':=sm.trans (same_of (fun x hx=>(hoth x hx).2.1) hkind)
      obtain ⟨N,gs₁,w₁,d',sl₁,sl₂,T₁,q₁,R1,A1,hr,e1,e2,e3,e4,e5,e6,e7,e8,e9⟩:=inner (sumTo gs'.size q') (by rw [hsz',← hμ];exact hlt) gs' w' sl' (T ++ ops) q' Rl' A' rfl (r1.trans hrw.1) (by rw [hsp h rfl];exact ha) C' sm'
      have hil:i < gs.size:=(Array.getElem?_eq_some_iff.1 hi).1
      have key:∀ x,(R0 x).sits∨gs.size≤x→Rl' x=Rl x∧A' x=A x:=fun x hx=>by
        by_cases ex:x=i
        · subst ex
          rcases hx with hx | hx
          · exact hsit ((sm.sits x).2 hx)
          · omega
        · exact (hoth x ex).2
      refine ⟨N + 1,gs₁,w₁,d',sl₁,sl₂,T₁,q₁,R1,A1,by simp only [runNT,hstep,hrt];exact hr,e1,e2.trans hsz',e3,e4,e5,e6,by rw [e7];exact Deaf_other T e ops hown,⟨fun x hx=>?_,fun x hx=>hrw.2 x (e8.2 x hx)⟩,fun x hx=>(e9 x (by rw [hsz'];exact hx)).trans (key x hx).1⟩
      rw [e8.1 x (by rw [hsz'];exact hx)]
      rcases hx with rfl | hx
      · exact (hoth x (fun z=>e z.symm)).2.2
      · exact (key x hx).2
structure Closing (P:Program) (K:World→Prop) (S:Nat→Loc→Prop) (Shun:Loc→Prop) (st:Addr) (Rl:Nat→Role) (A:Nat→Bool) (j c m:Nat) (T:Trace) (gs:Array Goroutine) (w:World) (q:Nat→Nat):Prop where
  core:Core P K S Shun st (fun t i=>Before t i m) Rl A (fun _=>False) (·=j) T gs w q
  shut:T.act? m=some (.close c)
  heard:T.heard m
def Found (P:Program) (K:World→Prop) (S:Nat→Loc→Prop) (Shun:Loc→Prop) (st:Addr) (Rl:Nat→Role) (A:Nat→Bool) (j:Nat) (z:Value) (ok:Bool) (home:Goroutine→Prop) (n:Nat) (w:World) (m:Machine) (t:Trace):Prop :=
  ∃ (gs':Array Goroutine) (g₂:Goroutine) (w₁:World) (sl':Option (Nat × Nat)) (q':Nat→Nat) (R1:Nat→Role) (A':Nat→Bool),m=crowd gs' w₁ sl'∧gs'.size=n∧gs'[j]?=some (Go.Conc.served g₂ (recvd ok z false))∧home g₂∧RW st w w₁∧Same Rl R1∧Deaf t j=0∧((∀ x,(Rl x).sits∨n≤x→A' x=A x∧R1 x=Rl x)∧∀ x,A' x=true→A x=true) ∧
    Hold P K S Shun st (upd R1 j .leave) A' j t gs' w₁ q'
theorem close_run (hKat:∀ w d,K w→K (w.at d)) (hKst:∀ w x,K w→K (w.setCell st x)) (hstc:∀ x c,(Rl x).has c→c≠st.block) {j c m k:Nat} {z:Value} {ok:Bool} {home:Goroutine→Prop} {sl:Option (Nat × Nat)} (hjlt:j < gs.size) (hj:Rl j=.seat c z ok home) (hcl:w.heap[c]?=some (.chan 0 #[] true k k false))
    (C:Closing P K S Shun st Rl A j c m T gs w q):∃ N m' T',runNT P N (crowd gs w sl) T=(.next m',T')∧Found P K S Shun st Rl A j z ok home gs.size w m' T':=by
  refine runs_until (P:=P)
    (Inv:=fun μ mm t=>Found P K S Shun st Rl A j z ok home gs.size w mm t∨∃ gs₁ w₁ sl₁ q₁ R1 A1,mm=crowd gs₁ w₁ sl₁∧gs₁.size=gs.size∧Closing P K S Shun st R1 A1 j c m t gs₁ w₁ q₁∧Same Rl R1∧RW st w w₁∧((∀ x,(Rl x).sits∨gs.size≤x→A1 x=A x∧R1 x=Rl x)∧∀ x,A1 x=true→A x=true)∧μ=sumTo gs₁.size q₁)
    (fun μ mm t hInv=>?_) _ _ T (.inr ⟨gs,w,sl,q,Rl,A,rfl,rfl,C,Same.refl _,RW.refl,⟨fun _ _=>⟨rfl,rfl⟩,fun _ h=>h⟩,rfl⟩)
  rcases hInv with hdone | ⟨gs₁,w₁,sl₁,q₁,R1,A1,rfl,hsz,C₁,sm,rw₁,hAR,hμ⟩
  · exact .inl hdone
  refine .inr ?_
  obtain ⟨gj,hgj⟩:∃ gj,gs₁[j]?=some gj:=⟨gs₁[j]'(by omega),Array.getElem?_eq_getElem (by omega)⟩
  have hjr:gj.status=.running:=C₁.core.live j gj rfl hgj
  have haw:∀ g∈gs₁,awake g:=by
    intro g hg
    obtain ⟨i,hi,rfl⟩:=Array.mem_iff_getElem.1 hg
    have hid:=C₁.core.idle i _ (fun h=>h) (Array.getElem?_eq_getElem hi)
    cases es:R1 i with
    | seat c z ok home=>rw [es] at hid;exact awake_of ((SitsS.status C₁.core.keep hid).elim (fun x=>.inl x.1) fun x=>.inr (.inl x.1))
    | done=>rw [es] at hid;exact awake_of (.inl (Dones.status hid.2))
    | leave=>rw [es] at hid;exact awake_of (hid.2.status.elim .inl fun x=>.inr (.inr x))
  obtain ⟨i,g,d,sl',hi,hg,hst⟩:=crowd_pick (P:=P) (w:=w₁) (sl:=sl₁) haw ⟨j,gj,hgj,hjr⟩
  have Cd:=Core.at hKat C₁.core d
  have rwd:RW st w (w₁.at d):=rw₁.trans (RW.at d)
  have hcb:c≠st.block:=hstc j c (by rw [hj];rfl)
  have hcd:(w₁.at d).heap[c]?=some (.chan 0 #[] true k k false):=(rw_heap rw₁ hcb).trans hcl
  have hstc1:∀ x c,(R1 x).has c→c≠st.block:=fun x c hc=>hstc x c ((sm.has x c).1 hc)
  have hRj:R1 j=.seat c z ok home:=((hAR.1 j (.inl (by rw [hj];trivial))).2).trans hj
  have hlt:i < gs₁.size:=(Array.getElem?_eq_some_iff.1 hi).1
  by_cases ej:i=j∧∃ g₂,AtS P (i == 0) K (S i) c z ok home g g₂
  · obtain ⟨rfl,g₂,hat⟩:=ej
    obtain ⟨_,_,_,_,hhome,es,hes,hstp⟩:=hat
    obtain ⟨hr,hd⟩:=evI_ops (i:=i) (fn:=g.frame.fn) (pos:=g.frame.place) hes
    have hsits:(R1 i).sits:=by rw [hRj];trivial
    have hp:partners (gs₁.setIfInBounds i ph) c true=[]:=partners_nil fun x y hy=>by
      rcases getElem?_stand gs₁ i x y hy with ⟨_,rfl⟩ | ⟨hx,hy'⟩
      · exact offersAt_ph _ _
      · exact Core.noSend Cd (fun h=>h) hy' _
    have hpos:0 < q₁ i:=by
      have:=C₁.core.idle i g (fun h=>h) hi
      rw [hRj] at this
      rcases SitsS.status C₁.core.keep this with ⟨_,h2⟩ | ⟨h1,_⟩
      · exact h2
      · rw [hg] at h1;cases h1
    have hμp:0 < μ:=by
      have h2:q₁ i≤sumTo gs₁.size q₁:=Go.ConcN.le_sumTo (f:=q₁) hlt
      omega
    refine ⟨_,_,0,by rw [hst];exact crowd_recv_closed (sl:=sl') hi (hstp _ Cd.keep) hcd hp,hμp,.inl ?_⟩
    have p1:=PastR.appRead (u:=MemOp.ofEvents i g.frame.fn g.frame.place es) (K':=fun x=>Before (t ++ MemOp.ofEvents i g.frame.fn g.frame.place es) x m) C₁.core.past (fun x hb=>hb.app _) ⟨fun h=>h,hsits⟩ own_of hr (hd t)
    have hm:=lt_of_act? C₁.shut
    have pS:PastS Shun S (fun g=>¬ False∧(R1 g).sits) (fun g=>¬ False∧(R1 g).sits) c m (t ++ MemOp.ofEvents i g.frame.fn g.frame.place es):=⟨p1,by rw [act?_old hm];exact C₁.shut,(heard_old hm).2 C₁.heard⟩
    have p2:=pS.take (j:=i) ⟨fun h=>h,hsits⟩ g₂.frame.fn g₂.frame.place
    rw [Array.append_assoc] at p2
    have hD1:∀ x,Deaf (t ++ MemOp.ofEvents i g.frame.fn g.frame.place es) x=Deaf t x:=fun x=>by
      by_cases ex:x=i
      · subst ex;exact hd t
      · exact Deaf_other t (fun z=>ex z.symm) _ own_of
    have hDeaf:∀ x,Deaf (t ++ (MemOp.ofEvents i g.frame.fn g.frame.place es ++ #[{ g:=i,fn:=g₂.frame.fn,pos:=g₂.frame.place,act:=.recvClosed c }])) x=Deaf t x:=fun x=>by
      rw [← Array.append_assoc,Deaf_quiet (fun op hop dd=>by
        simp only [List.mem_toArray,List.mem_cons,List.not_mem_nil,or_false] at hop
        subst hop;rfl),hD1]
    have hRle:∀ x,x≠i→upd R1 i Role.leave x=R1 x:=fun x hx=>upd_ne R1 _ hx
    have hRi:upd R1 i Role.leave i=.leave:=upd_same ..
    refine ⟨_,g₂,w₁.at d,sl',q₁,R1,A1,rfl,by simp [hsz],by rw [Array.getElem?_setIfInBounds_self_of_lt hlt,finishComm_recv],hhome,rwd,sm,(hDeaf i).trans (C₁.core.past.hears i ⟨fun h=>h,hsits⟩),hAR,?_⟩
    refine ⟨fun x y hx hy=>?_,fun x c' _ hc'=>?_,fun _ _ hx=>hx.elim,fun _ hx=>hx.elim,fun x x' c' h1 h2=>?_,fun x hx=>by rw [hDeaf];exact Cd.above x (by simpa using hx),fun x hx hdn=>?_,?_,Cd.shun,Cd.keep,by simpa using Cd.cell,by simpa using Cd.few,?_,fun x y h1 h2=>?_,fun x hx hsx hAx=>?_⟩
    · rw [Array.getElem?_setIfInBounds_ne (fun z=>hx z.symm)] at hy
      rw [hRle x hx]
      have hid:=Cd.idle x y (fun h=>h) hy
      cases es':R1 x with
      | seat c z ok home=>rw [es'] at hid;exact hid
      | done=>rw [es'] at hid;exact ⟨hid.1,by rw [hDeaf];exact hid.2⟩
      | leave=>rw [es'] at hid;exact ⟨hid.1,by rw [hDeaf];exact hid.2⟩
    · by_cases ex:x=i
      · subst ex;rw [hRi] at hc';exact hc'.elim
      · rw [hRle x ex] at hc';exact Cd.chans x c' ex hc'
    · by_cases e1:x=i
      · subst e1;rw [hRi] at h1;exact h1.elim
      · by_cases e2:x'=i
        · subst e2;rw [hRi] at h2;exact h2.elim
        · rw [hRle x e1] at h1;rw [hRle x' e2] at h2;exact Cd.inj x x' c' h1 h2
    · rw [hRle x hx] at hdn;exact Cd.aliveD x (fun h=>h) hdn
    · refine PastR.fewer p2 (fun g' hg'=>⟨fun h=>h,?_⟩) (fun g' hg'=>hg') fun i' g' _ hl=>.inl ⟨hl.2,?_⟩
      · have:=hg'.2;rwa [hRle g' hg'.1] at this
      · rw [hRle g' hl.2];exact hl.1.2
    · rw [← Array.append_assoc]
      refine LowT.mute (Cd.low.app (Nat.le_refl _) fun op hop b x hb hx=>Cd.slow i x hsits (hx ▸ (hr op hop b hb).2)) fun op hop=>?_
      simp only [List.mem_toArray,List.mem_cons,List.not_mem_nil,or_false] at hop
      subst hop;rfl
    · by_cases e1:x=i
      · subst e1;rw [hRi] at h1;exact h1.elim
      · rw [hRle x e1] at h1;exact Cd.slow x y h1 h2
    · rw [hRle x hsx];exact Cd.aliveC x (by simpa using hx) (fun h=>h) hAx
  · obtain ⟨gs',ops,q',w',R2,A2,hrt,hsz',hsp,hoth,hsit,hq0,hrw,hkind,hown,C',hlt'⟩:=Core.by_step (sl:=sl') hKat hKst (fun t u i hb=>Before.app u hb) Cd hi (fun h=>h) hg
      (fun x gx w' hx=>hx.elim) hstc1
      (fun c' z₁ ok' home' g₂ hs' hat=>⟨fun hij=>by
        subst hij
        rw [hRj] at hs'
        cases hs'
        exact ej ⟨rfl,g₂,hat⟩,fun x gx hx=>hx.elim⟩)
    have hm:=lt_of_act? C₁.shut
    refine ⟨_,_,sumTo gs'.size q',by rw [hst];exact hrt,by rw [hsz'];omega,.inr ⟨gs',w',sl',q',R2,A2,rfl,hsz'.trans hsz,⟨C',by rw [act?_old hm];exact C₁.shut,(heard_old hm).2 C₁.heard⟩,sm.trans (same_of (fun x hx=>(hoth x hx).2.1) hkind),rwd.trans hrw.1,⟨fun x hx=>?_,fun x hx=>hAR.2 x (hrw.2 x hx)⟩,rfl⟩⟩
    have h0:=hAR.1 x hx
    by_cases ex:x=i
    · subst ex
      have h1:=hsit ((sm.sits x).2 (hx.resolve_right (by omega)))
      exact ⟨h1.2.trans h0.1,h1.1.trans h0.2⟩
    · have h1:=(hoth x ex).2
      exact ⟨h1.2.trans h0.1,h1.1.trans h0.2⟩
def AtClose (P:Program) (main:Bool) (c:Nat) (a a':Goroutine):Prop :=
  a.status=.running∧mayWake P a=true∧a'.status=.running∧∀ w k,w.heap[c]?=some (.chan 0 #[] false k k false)→stepG P main a w=.go a' (w.setChan c 0 #[] true k k false) (closeEvents c)
theorem past_close {Sh:Loc→Prop} {h:Nat} {t:Trace} {r':Role} {S':Loc→Prop} (H:PastW Sh S (fun g=>¬ g=h∧(Rl g).sits) (fun g=>¬ g=h∧(Rl g).sits) h t) (hh:Deaf t h=0)
    (hS:∀ l,S' l→l.isMemory=true∧¬ Sh l) (fn:FuncId) (pos:String) (c:Nat) :
    PastS Sh (fun g=>if g=h then S' else S g) (fun g=>¬ False∧(upd Rl h r' g).sits) (fun g=>¬ False∧(upd Rl h r' g).sits) c (t.size + 1) (t ++ MemOp.ofEvents h fn pos (closeEvents c))∧∀ x,Deaf (t ++ MemOp.ofEvents h fn pos (closeEvents c)) x=Deaf t x:=by
  classical
  have hD:∀ x,Deaf (t ++ MemOp.ofEvents h fn pos (closeEvents c)) x=Deaf t x:=fun x=>Deaf_quiet (fun op hop d=>by
    rw [closeOps] at hop
    simp only [List.mem_toArray,List.mem_cons,List.not_mem_nil,or_false] at hop
    rcases hop with rfl | rfl <;> rfl)
  refine ⟨?_,hD⟩
  have e:t ++ MemOp.ofEvents h fn pos (closeEvents c)=(t ++ #[{ g:=h,fn:=fn,pos:=pos,act:=.access ⟨.obj c,false,true⟩ }]) ++ #[{ g:=h,fn:=fn,pos:=pos,act:=.close c }]:=by
    rw [closeOps,Array.append_assoc];rfl
  have hD1:Deaf (t ++ (#[{ g:=h,fn:=fn,pos:=pos,act:=.access ⟨.obj c,false,true⟩ }]:Trace)) h=Deaf t h:=Deaf_quiet (fun op hop d=>by
    simp only [List.mem_toArray,List.mem_cons,List.not_mem_nil,or_false] at hop
    subst hop;rfl)
  have p1:=PastR.appH H (u:=#[{ g:=h,fn:=fn,pos:=pos,act:=.access ⟨.obj c,false,true⟩ }]) (fun op hop=>by
    simp only [List.mem_toArray,List.mem_cons,List.not_mem_nil,or_false] at hop
    subst hop;rfl) (fun op hop b hb=>by
    simp only [List.mem_toArray,List.mem_cons,List.not_mem_nil,or_false] at hop
    subst hop
    simp only [MemAct.touch?,Option.some.injEq] at hb
    subst hb
    exact ⟨fun _ _ _=>rfl,fun _ e=>by cases e⟩) (fun hM=>absurd rfl hM.1)
  have p2:=(PastR.join p1 (fun x=>x.1 rfl) hS (hD1.trans hh) (decide r'.sits)).close (hD1.trans hh) fn pos c
  rw [e]
  have hsz:(t ++ (#[{ g:=h,fn:=fn,pos:=pos,act:=.access ⟨.obj c,false,true⟩ }]:Trace)).size=t.size + 1:=by simp
  rw [hsz] at p2
  refine ⟨PastR.fewer p2.past (fun g hg=>?_) (fun g hg=>hg) fun i g _ hl=>.inl ⟨fun h=>h,?_⟩,p2.shut,p2.heard⟩
  · by_cases e:g=h
    · exact .inr e
    · exact .inl ⟨e,by have:=hg.2;rwa [upd_ne Rl _ e] at this⟩
  · rcases hl with x | ⟨x,rfl⟩
    · rw [upd_ne Rl _ x.1];exact x.2
    · rw [upd_same];simpa using x
theorem give_close (hKat:∀ w d,K w→K (w.at d)) (hKst:∀ w x,K w→K (w.setCell st x)) (hKc:∀ w c cap buf cl a b tm,(∃ x,(Rl x).has c)→K w→K (w.setChan c cap buf cl a b tm)) (hstc:∀ x c,(Rl x).has c→c≠st.block)
    {a a':Goroutine} {j c:Nat} {z:Value} {ok:Bool} {home:Goroutine→Prop} {sl:Option (Nat × Nat)} (hjh:j≠h) (hjlt:j < gs.size) (hj:Rl j=.seat c z ok home) (ha:gs[h]?=some a) (hat:AtClose P (h == 0) c a a') (C:Hold P K S Shun st Rl A h T gs w q) (hdeaf:Deaf T h=0)
    {k:Nat} (hc:w.heap[c]?=some (.chan 0 #[] false k k false)) {r':Role} {S':Loc→Prop} {nh:Nat} (hS:∀ l,S' l→l.isMemory=true∧¬ Shun l) (hSl:∀ x,S' (.cell x)→x.block < w.heap.size)
    (hr1:∀ c',r'.has c'→c'≠st.block∧(∀ x,x≠h→¬ (Rl x).has c')∧∃ cap k,w.heap[c']?=some (.chan cap #[] false k k false)) (hr2:r'=.done→A h=true∧st.spot=none) (hr3:A h=true→r'≠.leave)
    (hafter:∀ T',Deaf T' h=0→IdleR P K (fun g=>if g=h then S' else S g) st T' h nh a' r') :
    ∃ N m' T' w₀ R1 A1,runNT P N (crowd gs w sl) T=(.next m',T')∧RW st w w₀∧Same Rl R1∧A1 h=A h∧((∀ x,(Rl x).sits∨gs.size≤x→A1 x=A x∧R1 x=Rl x)∧∀ x,A1 x=true→A x=true)∧Found P K (fun g=>if g=h then S' else S g) Shun st (upd R1 h r') A1 j z ok home gs.size (w₀.setChan c 0 #[] true k k false) m' T':=by
  obtain ⟨hrun,hmw,ha'r,hcl⟩:=hat
  obtain ⟨N,gs₁,w₁,d,sl₁,sl₂,T₁,q₁,R1,A1,hr,hst,hsz,ha₁,C₁,sm,rw₁,hdf,hA1,hR1⟩:=picked hKat hKst hstc hrun _ gs w sl T q Rl A rfl RW.refl ha C (Same.refl _)
  generalize hw0:w₁.at d=w₀ at hst C₁ rw₁
  have hcb:c≠st.block:=hstc j c (by rw [hj];rfl)
  have hc0:w₀.heap[c]?=some (.chan 0 #[] false k k false):=(rw_heap rw₁ hcb).trans hc
  have hlth:h < gs₁.size:=(Array.getElem?_eq_some_iff.1 ha₁).1
  generalize hW:w₀.setChan c 0 #[] true k k false=W
  have hstep:=hcl w₀ k hc0
  rw [hW] at hstep
  have hrt:=runT_crowd_go (P:=P) (gs:=gs₁) (sl:=sl₂) ha₁ hstep
  have hR1j:R1 j=.seat c z ok home:=(hR1 j (.inl (by rw [hj];trivial))).trans hj
  have hKW:K W:=hW ▸ hKc _ c _ _ _ _ _ _ ⟨j,by rw [hj];rfl⟩ C₁.keep
  have hcW:W.heap[c]?=some (.chan 0 #[] true k k false):=hW ▸ heap_setChan_self w₀ hc0 _ _ _ _ _ _
  have hne:∀ c',c'≠c→W.heap[c']?=w₀.heap[c']?:=fun c' hc'=>by rw [← hW];exact heap_setChan_ne _ _ _ _ _ _ _ (fun e=>hc' e.symm)
  have hcell:=cell_setChan hc0 (fun _ _ _ h=>by cases h) 0 #[] true k k false st
  rw [hW] at hcell
  obtain ⟨pS,hDeaf⟩:=past_close (r':=r') C₁.past (hdf.trans hdeaf) hS a.frame.fn a.frame.place c
  have hRle:∀ x,x≠h→upd R1 h r' x=R1 x:=fun x hx=>upd_ne R1 _ hx
  have hRi:upd R1 h r' h=r':=upd_same ..
  have hwk:∀ y,woken P a a' W y=y.again W:=by intro y;simp [woken,hmw,ha'r]
  obtain ⟨gj,hgj⟩:∃ gj,gs₁[j]?=some gj:=⟨gs₁[j]'(by omega),Array.getElem?_eq_getElem (by omega)⟩
  have hSj:SitsS P (j == 0) K (S j) c z ok home (q₁ j) gj:=by have:=C₁.idle j gj hjh hgj;rwa [hR1j] at this
  obtain ⟨gj',nj,hgj',hSj',hjr⟩:∃ gj' nj,woken P a a' W gj=gj'∧SitsS P (j == 0) K (S j) c z ok home nj gj'∧gj'.status=.running:=by
    rcases hSj with ⟨kk,w₂,hq,hG⟩ | ⟨_,g₀,g₂,rfl,hat⟩
    · have hjr:gj.status=.running:=(SitsS.status C₁.keep (.inl ⟨kk,w₂,hq,hG⟩)).elim (·.1) (fun z=>by omega)
      exact ⟨gj,q₁ j,by rw [hwk];exact again_running W (.inl hjr),.inl ⟨kk,w₂,hq,hG⟩,hjr⟩
    · refine ⟨_,1,by rw [hwk,again_recv_closed hcW],.inl ⟨0,W,rfl,fun w' hw'=>⟨g₂,?_⟩⟩,rfl⟩
      obtain ⟨_,h1,h2,h3,hh,es,hes,hst2⟩:=hat
      exact ⟨rfl,rfl,rfl,rfl,hh,es,hes,fun w hw=>by rw [← hst2 w hw];exact stepG_same h1.symm h2.symm h3.symm w⟩
  have hcc1:∀ x c',x≠j→(R1 x).has c'→c'≠c:=fun x c' hx hc' e=>hx (C₁.inj x j c' hc' (by rw [hR1j];exact e))
  have Cl:Closing P K (fun g=>if g=h then S' else S g) Shun st (upd R1 h r') A1 j c (T₁.size + 1) (T₁ ++ MemOp.ofEvents h a.frame.fn a.frame.place (closeEvents c)) ((gs₁.map (woken P a a' W)).setIfInBounds h a') W (upd (upd q₁ h nh) j nj):=by
    refine ⟨⟨fun x y _ hy=>?_,fun x c' hD hc'=>?_,fun x y hD hy=>?_,fun x hD=>?_,fun x x' c' h1 h2=>?_,fun x hx=>by rw [hDeaf];exact C₁.above x (by simpa using hx),fun x _ hdn=>?_,pS.past,C₁.shun,hKW,fun hs=>?_,by simpa using C₁.few,?_,fun x y h1 h2=>?_,fun x hx hsx hAx=>?_⟩,pS.shut,pS.heard⟩
    · by_cases ex:x=h
      · subst ex
        rw [Array.getElem?_setIfInBounds_self_of_lt (by simpa using hlth)] at hy
        obtain rfl:=Option.some.inj hy
        rw [upd_ne _ nj (Ne.symm hjh),upd_same,hRi]
        exact hafter _ (by rw [hDeaf];exact hdf.trans hdeaf)
      · rw [Array.getElem?_setIfInBounds_ne (fun z=>ex z.symm),Array.getElem?_map] at hy
        obtain ⟨y₀,hy₀,rfl⟩:=Option.map_eq_some_iff.1 hy
        rw [hRle x ex]
        by_cases exj:x=j
        · subst exj
          rw [hgj] at hy₀
          obtain rfl:=Option.some.inj hy₀
          rw [upd_same,hgj',hR1j]
          show SitsS _ _ _ (if x=h then S' else S x) _ _ _ _ _ _
          rw [if_neg ex];exact hSj'
        · rw [upd_ne _ nj exj,upd_ne q₁ nh ex]
          have hid:=C₁.idle x y₀ ex hy₀
          rw [hwk,IdleR.again hKW hid fun c' hc'=>by
            obtain ⟨cap',k',hk'⟩:=C₁.chans x c' (fun z=>z) hc'
            exact ⟨cap',k',by rw [hne c' (hcc1 x c' exj hc')];exact hk'⟩]
          cases es':R1 x with
          | seat c z ok home=>rw [es'] at hid;show SitsS _ _ _ (if x=h then S' else S x) _ _ _ _ _ _;rw [if_neg ex];exact hid
          | done=>rw [es'] at hid;exact ⟨hid.1,by rw [hDeaf];exact hid.2⟩
          | leave=>rw [es'] at hid;exact ⟨hid.1,by rw [hDeaf];exact hid.2⟩
    · by_cases ex:x=h
      · subst ex
        rw [hRi] at hc'
        obtain ⟨h1,h2,cap,k',h3⟩:=hr1 c' hc'
        have hcne:c'≠c:=fun e=>h2 j hjh (by rw [hj];exact e)
        exact ⟨cap,k',by rw [hne c' hcne];exact (rw_heap rw₁ h1).trans h3⟩
      · rw [hRle x ex] at hc'
        obtain ⟨cap',k',hk'⟩:=C₁.chans x c' (fun z=>z) hc'
        exact ⟨cap',k',by rw [hne c' (hcc1 x c' hD hc')];exact hk'⟩
    · subst hD
      rw [Array.getElem?_setIfInBounds_ne (fun z=>hjh z.symm),Array.getElem?_map,hgj] at hy
      obtain rfl:=Option.some.inj hy
      rw [hgj'];exact hjr
    · subst hD;rw [hRle x hjh,hR1j];trivial
    · by_cases e1:x=h <;> by_cases e2:x'=h
      · rw [e1,e2]
      · subst e1;rw [hRi] at h1;rw [hRle x' e2] at h2
        exact absurd ((sm.has x' c').1 h2) ((hr1 c' h1).2.1 x' e2)
      · subst e2;rw [hRi] at h2;rw [hRle x e1] at h1
        exact absurd ((sm.has x c').1 h1) ((hr1 c' h2).2.1 x e1)
      · rw [hRle x e1] at h1;rw [hRle x' e2] at h2;exact C₁.inj x x' c' h1 h2
    · by_cases e:x=h
      · subst e;rw [hRi] at hdn;exact ⟨(hA1.1 x (.inl rfl)).trans (hr2 hdn).1,(hr2 hdn).2⟩
      · rw [hRle x e] at hdn;exact C₁.aliveD x e hdn
    · have e1:((gs₁.map (woken P a a' W)).setIfInBounds h a').size=gs₁.size:=by simp
      rw [e1,hcell.1,hcell.2];exact C₁.cell hs
    · have e1:W.heap.size=w₀.heap.size:=by rw [← hW];simp [World.setChan]
      rw [e1]
      refine C₁.low.app (Nat.le_refl _) fun op hop b x hb hx=>?_
      rw [closeOps] at hop
      simp only [List.mem_toArray,List.mem_cons,List.not_mem_nil,or_false] at hop
      rcases hop with rfl | rfl
      · simp only [MemAct.touch?,Option.some.injEq] at hb
        subst hb;cases hx
      · cases hb
    · have e1:W.heap.size=w₀.heap.size:=by rw [← hW];simp [World.setChan]
      rw [e1]
      by_cases ex:x=h
      · subst ex;rw [if_pos rfl] at h2;rw [rw₁.size];exact hSl y h2
      · rw [if_neg ex] at h2;rw [hRle x ex] at h1;exact C₁.slow x y h1 h2
    · by_cases ex:x=h
      · subst ex;rw [hRi];exact hr3 ((hA1.1 x (.inl rfl)).symm.trans hAx)
      · rw [hRle x ex];exact C₁.aliveC x (by simpa using hx) ex hAx
  have hstc2:∀ x c',(upd R1 h r' x).has c'→c'≠st.block:=fun x c' hc'=>by
    by_cases ex:x=h
    · subst ex;rw [hRi] at hc';exact (hr1 c' hc').1
    · rw [hRle x ex] at hc';exact hstc x c' ((sm.has x c').1 hc')
  obtain ⟨N2,m',T',hr2',F⟩:=close_run (sl:=sl₂) hKat hKst hstc2 (j:=j) (by simp;omega) ((hRle j hjh).trans hR1j) hcW Cl
  have e1:((gs₁.map (woken P a a' W)).setIfInBounds h a').size=gs.size:=by simp [hsz]
  rw [e1] at F
  exact ⟨N + 1 + N2,m',T',w₀,R1,A1,runNT_then (runNT_succ_of hr (hst.trans hrt)) hr2',rw₁,sm,hA1.1 h (.inl rfl),⟨fun x hx=>⟨hA1.1 x (.inr hx),hR1 x hx⟩,hA1.2⟩,hW ▸ F⟩
end
end Go.Proofs.Ytndppafplgilbaa
namespace Go.Proofs.Ytndppafplgilbaa
open Go Go.Conc
open Go.ConcN (sumTo upd sumTo_upd upd_ne upd_same)
section
variable {P:Program} {K:World→Prop} {S:Nat→Loc→Prop} {Shun:Loc→Prop} {st:Addr} {Rl:Nat→Role} {A:Nat→Bool} {h:Nat} {T:Trace} {gs:Array Goroutine} {w:World} {q:Nat→Nat}
def AtGo (P:Program) (main:Bool) (S:Nat→Loc→Prop) (Shun:Loc→Prop) (Rl:Nat→Role) (h:Nat) (a a' child:Goroutine):Prop :=
  a.status=.running∧∃ es,(∀ e∈es,EvH S Shun Rl h e∧(MemAct.ofEvent e).touch?=none)∧∀ w,stepG P main a w=.spawn a' child w es
theorem hire (hKat:∀ w d,K w→K (w.at d)) (hKst:∀ w x,K w→K (w.setCell st x)) (hstc:∀ x c,(Rl x).has c→c≠st.block)
    {a a' child:Goroutine} {sl:Option (Nat × Nat)} (ha:gs[h]?=some a) (hat:AtGo P (h == 0) S Shun Rl h a a' child) (C:Hold P K S Shun st Rl A h T gs w q) (hdeaf:Deaf T h=0)
    (hnew:Rl gs.size=.leave) (hnA:A (gs.size + 1)=false) {r':Role} {S':Loc→Prop} {nh:Nat} (hS:∀ l,S' l→l.isMemory=true∧¬ Shun l) (hSl:∀ x,S' (.cell x)→x.block < w.heap.size)
    (hr1:∀ c',r'.has c'→c'≠st.block∧(∀ x,x≠h→¬ (Rl x).has c')∧∃ cap k,w.heap[c']?=some (.chan cap #[] false k k false)) (hr2:r'=.done→A h=true∧st.spot=none) (hr3:A h=true→r'≠.leave)
    (hafter:∀ T',Deaf T' h=0→IdleR P K (fun g=>if g=h then S' else S g) st T' h nh a' r') :
    ∃ N gs' w₁ sl' T' q' R1 A1,runNT P N (crowd gs w sl) T=(.next (crowd gs' w₁ sl'),T')∧gs'.size=gs.size + 1∧gs'[gs.size]?=some child∧RW st w w₁∧Same Rl R1∧Deaf T' gs.size=0∧((∀ x,x=h∨(Rl x).sits∨gs.size≤x→A1 x=A x)∧∀ x,A1 x=true→A x=true)∧(∀ x,(Rl x).sits∨gs.size≤x→R1 x=Rl x) ∧
      Hold P K (fun g=>if g=h then S' else S g) Shun st (upd R1 h r') A1 gs.size T' gs' w₁ q':=by
  classical
  obtain ⟨hrun,es,hes,hgo⟩:=hat
  obtain ⟨N,gs₁,w₁,d,sl₁,sl₂,T₁,q₁,R1,A1,hr,hst,hsz,ha₁,C₁,sm,rw₁,hdf,hA1,hR1⟩:=picked hKat hKst hstc hrun _ gs w sl T q Rl A rfl RW.refl ha C (Same.refl _)
  generalize hw0:w₁.at d=w₀ at hst C₁ rw₁
  have hlt:h < gs₁.size:=(Array.getElem?_eq_some_iff.1 ha₁).1
  have hrt:=runT_crowd_spawn (P:=P) (sl:=sl₂) ha₁ (hgo w₀)
  have hpush:((MemOp.ofEvents h a.frame.fn a.frame.place es).push { g:=h,fn:=a.frame.fn,pos:=a.frame.place,act:=.go gs₁.size } |>.push { g:=gs₁.size,fn:=child.frame.fn,pos:=a.frame.place,act:=.start }) =
      MemOp.ofEvents h a.frame.fn a.frame.place es ++ born2 h gs₁.size a.frame.fn a.frame.place child.frame.fn:=by
    apply Array.ext';simp [born2]
  rw [hpush] at hrt
  obtain ⟨hs,hdf'⟩:=evH_ops (i:=h) (fn:=a.frame.fn) (pos:=a.frame.place) (fun e he=>(hes e he).1.same sm)
  have p1:=PastR.appH C₁.past (u:=MemOp.ofEvents h a.frame.fn a.frame.place es) own_of (fun op hop b hb=>⟨fun g' hg' hS'=>(hs op hop b hb).1 g' hg' hS',(hs op hop b hb).2⟩) (fun hM=>absurd rfl hM.1)
  have hD1:∀ x,Deaf (T₁ ++ MemOp.ofEvents h a.frame.fn a.frame.place es) x=Deaf T₁ x:=fun x=>by
    by_cases ex:x=h
    · subst ex;exact hdf' T₁
    · exact Deaf_other T₁ (fun z=>ex z.symm) _ own_of
  have hc0:Deaf T₁ gs₁.size=0:=C₁.above _ (Nat.le_refl _)
  have p2:=(PastR.join p1 (fun x=>x.1 rfl) hS ((hD1 h).trans (hdf.trans hdeaf)) (decide r'.sits)).hire ((hD1 h).trans (hdf.trans hdeaf)) ((hD1 _).trans hc0) a.frame.fn a.frame.place child.frame.fn
  rw [Array.append_assoc] at p2
  have hDeaf:∀ x,Deaf (T₁ ++ (MemOp.ofEvents h a.frame.fn a.frame.place es ++ born2 h gs₁.size a.frame.fn a.frame.place child.frame.fn)) x=Deaf T₁ x:=fun x=>by
    rw [← Array.append_assoc,Deaf_quiet (born2_quiet _ _ _ _ _ _),hD1]
  have hRle:∀ x,x≠h→upd R1 h r' x=R1 x:=fun x hx=>upd_ne R1 _ hx
  have hRi:upd R1 h r' h=r':=upd_same ..
  have hRn:R1 gs₁.size=.leave:=by rw [hsz];exact (hR1 _ (.inr (Nat.le_refl _))).trans hnew
  have hne:gs₁.size≠h:=by omega
  refine ⟨N + 1,_,w₀,sl₂,_,upd q₁ h nh,R1,A1,runNT_succ_of hr (hst.trans hrt),by simp [hsz],by rw [← hsz,Array.getElem?_push,if_pos (by simp)],rw₁,sm,by rw [← hsz,hDeaf];exact hc0,hA1,hR1,?_⟩
  rw [← hsz]
  refine ⟨fun x y hx hy=>?_,fun x c' _ hc'=>?_,fun _ _ hx=>hx.elim,fun _ hx=>hx.elim,fun x x' c' h1 h2=>?_,fun x hx=>by rw [hDeaf];exact C₁.above x (by simp at hx;omega),fun x hx hdn=>?_,?_,C₁.shun,C₁.keep,?_,?_,?_,fun x y h1 h2=>?_,fun x hx hsx hAx=>?_⟩
  · rw [Array.getElem?_push,if_neg (by simpa using hx)] at hy
    by_cases ex:x=h
    · subst ex
      rw [Array.getElem?_setIfInBounds_self_of_lt hlt] at hy
      obtain rfl:=Option.some.inj hy
      rw [upd_same,hRi]
      exact hafter _ (by rw [hDeaf];exact hdf.trans hdeaf)
    · rw [Array.getElem?_setIfInBounds_ne (fun z=>ex z.symm)] at hy
      rw [hRle x ex,upd_ne q₁ nh ex]
      have hid:=C₁.idle x y ex hy
      cases es':R1 x with
      | seat c z ok home=>rw [es'] at hid;show SitsS _ _ _ (if x=h then S' else S x) _ _ _ _ _ _;rw [if_neg ex];exact hid
      | done=>rw [es'] at hid;exact ⟨hid.1,by rw [hDeaf];exact hid.2⟩
      | leave=>rw [es'] at hid;exact ⟨hid.1,by rw [hDeaf];exact hid.2⟩
  · by_cases ex:x=h
    · subst ex
      rw [hRi] at hc'
      obtain ⟨h1,h2,cap,k',h3⟩:=hr1 c' hc'
      exact ⟨cap,k',(rw_heap rw₁ h1).trans h3⟩
    · rw [hRle x ex] at hc';exact C₁.chans x c' (fun z=>z) hc'
  · by_cases e1:x=h <;> by_cases e2:x'=h
    · rw [e1,e2]
    · subst e1;rw [hRi] at h1;rw [hRle x' e2] at h2
      exact absurd ((sm.has x' c').1 h2) ((hr1 c' h1).2.1 x' e2)
    · subst e2;rw [hRi] at h2;rw [hRle x e1] at h1
      exact absurd ((sm.has x c').1 h1) ((hr1 c' h2).2.1 x e1)
    · rw [hRle x e1] at h1;rw [hRle x' e2] at h2;exact C₁.inj x x' c' h1 h2
  · by_cases e:x=h
    · subst e;rw [hRi] at hdn;exact ⟨(hA1.1 x (.inl rfl)).trans (hr2 hdn).1,(hr2 hdn).2⟩
    · rw [hRle x e] at hdn;exact C₁.aliveD x e hdn
  · refine PastR.fewer p2 (fun g hg=>?_) (fun g hg=>hg) fun i g _ hl=>.inl ?_
    · by_cases e:g=h
      · exact .inr e
      · exact .inl ⟨e,by have:=hg.2;rwa [hRle g e] at this⟩
    · rcases hl with x | ⟨x,rfl⟩
      · refine ⟨fun e=>?_,by rw [hRle g x.1];exact x.2⟩
        subst e
        have:=x.2
        rw [hRn] at this
        exact this
      · exact ⟨fun e=>hne e.symm,by rw [hRi];simpa using x⟩
  · have e1:alive A1 (((gs₁.setIfInBounds h a').push child).size + 1)=alive A1 (gs₁.size + 1):=by
      have:A1 (gs₁.size + 1)=false:=by rw [hsz];exact (hA1.1 _ (.inr (.inr (Nat.le_succ _)))).trans hnA
      simp only [Array.size_push,Array.size_setIfInBounds,alive,this]
      simp
    rw [e1];exact C₁.cell
  · have e1:alive A1 (((gs₁.setIfInBounds h a').push child).size + 1)=alive A1 (gs₁.size + 1):=by
      have:A1 (gs₁.size + 1)=false:=by rw [hsz];exact (hA1.1 _ (.inr (.inr (Nat.le_succ _)))).trans hnA
      simp only [Array.size_push,Array.size_setIfInBounds,alive,this]
      simp
    rw [e1];exact C₁.few
  · rw [← Array.append_assoc]
    exact (C₁.low.mute (touchNone_of fun e he=>(hes e he).2)).mute (born2_mute _ _ _ _ _)
  · by_cases ex:x=h
    · subst ex;rw [if_pos rfl] at h2;rw [rw₁.size];exact hSl y h2
    · rw [if_neg ex] at h2;rw [hRle x ex] at h1;exact C₁.slow x y h1 h2
  · by_cases ex:x=h
    · subst ex;rw [hRi];exact hr3 ((hA1.1 x (.inl rfl)).symm.trans hAx)
    · rw [hRle x ex];exact C₁.aliveC x (by simp at hx;omega) ex hAx
end
end Go.Proofs.Ytndppafplgilbaa
namespace Go.Proofs.Ytndppafplgilbaa
open Go Go.Conc
open Go.ConcN (sumTo upd sumTo_upd upd_ne upd_same)
section
variable {P:Program} {K:World→Prop} {S:Nat→Loc→Prop} {Shun:Loc→Prop} {st:Addr} {Rl:Nat→Role} {A:Nat→Bool} {T:Trace} {gs:Array Goroutine} {w:World} {q:Nat→Nat}
def AtEndI (P:Program) (S:Nat→Loc→Prop) (Shun:Loc→Prop) (st:Addr) (Rl:Nat→Role) (Post:Value→World→Prop) (g:Goroutine) (w:World):Prop :=
  g.status=.running∧∀ w₁,RW st w w₁→∃ v es,stepG P true g w₁=.ended (.done v) w₁ es∧(∀ e∈es,EvH S Shun Rl 0 e)∧Post v w₁
theorem hold_end (hKat:∀ w d,K w→K (w.at d)) (hKst:∀ w x,K w→K (w.setCell st x)) (hstc:∀ x c,(Rl x).has c→c≠st.block) {Post:Value→World→Prop} {a:Goroutine} {sl:Option (Nat × Nat)} (ha:gs[0]?=some a) (hat:AtEndI P S Shun st Rl Post a w) (C:Hold P K S Shun st Rl A 0 T gs w q) (hl:∀ x,x≠0→Rl x=.leave) :
    ∃ N last o w' t',runNT P (N + 1) (crowd gs w sl) T=(.ended o w',t')∧runN P N (crowd gs w sl)=.next last∧step P last=.ended o w'∧Good P Post last o w' t':=by
  obtain ⟨hrun,hend⟩:=hat
  obtain ⟨N,gs₁,w₁,d,sl₁,sl₂,T₁,q₁,R1,A1,hr,hst,hsz,ha₁,C₁,sm,rw₁,hdf,hA1,hR1⟩:=picked hKat hKst hstc hrun _ gs w sl T q Rl A rfl RW.refl ha C (Same.refl _)
  generalize hw0:w₁.at d=w₀ at hst C₁ rw₁
  obtain ⟨v,es,hstep,hes,hpost⟩:=hend w₀ rw₁
  have hrt:=runT_many_ended (P:=P) (sl:=sl₂) (i:=0) ha₁ (show stepG P (0 == 0) a w₀=_ from hstep)
  obtain ⟨hs,hdf'⟩:=evH_ops (i:=0) (fn:=a.frame.fn) (pos:=a.frame.place) (fun e he=>(hes e he).same sm)
  have p1:=PastR.appH C₁.past (u:=MemOp.ofEvents 0 a.frame.fn a.frame.place es) own_of (fun op hop b hb=>⟨fun g' hg' hS'=>(hs op hop b hb).1 g' hg' hS',(hs op hop b hb).2⟩) (fun hM=>absurd rfl hM.1)
  have hlv:∀ x,x≠0→R1 x=.leave:=fun x hx=>by
    rcases sm.kind x with e | ⟨e,_⟩
    · rw [e];exact hl x hx
    · rw [hl x hx] at e;cases e
  have hq:∀ (i:Nat) (x:Goroutine),i≠0→gs₁[i]?=some x→QuitsD P (q₁ i) (Deaf T₁ i) x:=fun i x hi hx=>by
    have:=C₁.idle i x hi hx
    rw [hlv i hi] at this
    exact this.2
  have h1:runN P N (crowd gs w sl)=.next (crowd gs₁ w₁ sl₁):=by rw [← runNT_fst P N _ T,hr]
  refine ⟨N,crowd gs₁ w₁ sl₁,.done v,w₀,_,?_,?_,?_,v,rfl,hpost,p1.clean,p1.over (fun g hg=>?_),⟨fun x hx=>?_,rfl⟩,fun j x hx hj=>?_⟩
  · rw [runNT_add,hr];simp only [runNT,hst,hrt]
  · exact h1
  · show (stepT P _).1=_
    rw [hst,hrt]
  · have:=hg.2
    rw [hlv g hg.1] at this
    exact this
  · obtain ⟨j,hj⟩:=List.mem_iff_getElem?.1 hx
    rw [List.getElem?_drop] at hj
    exact ⟨_,(hq (1 + j) x (by omega) (by simpa [crowd] using hj)).leaves⟩
  · have hqq:=hq j x (by omega) hx
    refine ⟨q₁ j,?_⟩
    have e:Trace.deaf (T₁ ++ MemOp.ofEvents 0 a.frame.fn a.frame.place es) j (T₁ ++ MemOp.ofEvents 0 a.frame.fn a.frame.place es).size=Deaf T₁ j:=Deaf_other T₁ (g:=j) (g':=0) (by omega) _ own_of
    rw [e]
    exact hqq.hears _
end
end Go.Proofs.Ytndppafplgilbaa
