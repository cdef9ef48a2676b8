/-
  larchlaw04.BatonThins returns true for every input. No condition. (Part 8 of 49; joined by program.)
-/
import Derived.Test.YtndppafplgilbaaL07
import Derived.Conc.CrowdComm
import Derived.Conc.CrowdSel
set_option linter.unusedVariables false
set_option linter.unusedSimpArgs false
set_option linter.unusedSectionVars false
set_option maxRecDepth 100000
namespace Go.Proofs.Ytndppafplgilbaa
open Go Go.Conc
open Go.ConcN (sumTo upd sumTo_upd upd_ne upd_same)
inductive Role where
  | seat (c:Nat) (z:Value) (ok:Bool) (home:Goroutine→Prop)
  | done
  | leave
def Role.has:Role→Nat→Prop
  | .seat c ..,d=>d=c
  | _,_=>False
def Role.sits:Role→Prop
  | .seat ..=>True
  | _=>False
def EvI (S:Loc→Prop) (e:Event):Prop:=∃ a,e=⟨.cell a,false,false⟩∧S (.cell a)
def DI (S:Loc→Prop) (w w':World) (es:Array Event):Prop:=(∃ d,w'=w.at d)∧∀ e∈es,EvI S e
def RKI (K:World→Prop) (_ w₁:World):Prop:=K w₁
section
variable (P:Program) (main:Bool) (K:World→Prop) (S:Loc→Prop) (c:Nat) (z:Value) (ok:Bool) (home:Goroutine→Prop)
def AtS (g g₂:Goroutine):Prop :=
  g.status=.running∧g.frame=g₂.frame∧g.callers=g₂.callers∧g.dying=g₂.dying∧home g₂∧∃ es,(∀ e∈es,EvI S e)∧∀ w,K w→stepG P main g w=.comm g₂ #[rcase c z] true (.recv ok) w es
def SitsS (n:Nat) (g:Goroutine):Prop :=
  (∃ k w,n=k + 1∧Goes P main (RKI K) (DI S) (fun g _=>∃ g₂,AtS P main K S c z ok home g g₂) k g w)∨(n=0∧∃ g₀ g₂,g=parked g₂ #[rcase c z] (.recv ok)∧AtS P main K S c z ok home g₀ g₂)
end
def Lasts (P:Program) (st:Addr):Nat→Nat→Nat→Goroutine→Prop
  | 0,_,_,_=>False
  | n + 1,k,d,g=>g.status=.running∧d≠0 ∧
    ((∃ g' es,(∀ e∈es,(MemAct.ofEvent e).touch?=none)∧(∀ w,stepG P false g w=.go g' w es)∧deafBehind d es≠0∧Lasts P st n k (deafBehind d es) g') ∨
     (k=0∧∃ g',(∀ w,w.cell? st=some (.int .u64 1)→stepG P false g w=.go g' w #[⟨.cell st,false,true⟩])∧Lasts P st n 1 d g') ∨
     (k=1∧∃ g',(∀ w x,w.cell? st=some x→w.frozen? st=false→stepG P false g w=.go g' (w.setCell st (.int .u64 0)) #[⟨.cell st,true,true⟩])∧Lasts P st n 2 d g') ∨
     (k=2∧mayWake P g=true∧∃ g',(∀ w,w.cell? ⟨st.block,st.off + 1,st.spot⟩=some (.int .u32 0)→w.frozen? ⟨st.block,st.off + 1,st.spot⟩=false→stepG P false g w=.go g' (w.setCell ⟨st.block,st.off + 1,st.spot⟩ (.int .u32 1)) (semEvents ⟨st.block,st.off + 1,st.spot⟩))∧QuitsD P n d g'))
def Dones (P:Program) (st:Addr):Nat→Nat→Goroutine→Prop
  | 0,_,_=>False
  | n + 1,d,g=>g.status=.running ∧
    ((∃ g' es,(∀ e∈es,(MemAct.ofEvent e).touch?=none)∧(∀ w x,w.cell? st=some x→stepG P false g w=.go g' w es)∧Dones P st n (deafBehind d es) g') ∨
     (d≠0∧∃ (g':Nat→Goroutine) (g'':Nat→Goroutine) (es:Array Event),(∀ e∈es,∃ b,e=⟨.cell st,b,true⟩) ∧
        (∀ w k,w.cell? st=some (.int .u64 ((k + 1:Nat) * 4294967296))→w.frozen? st=false→k < 1000→stepG P false g w=.go (g' k) (w.setCell st (.int .u64 ((k:Nat) * 4294967296))) es)∧(∀ k,k < 1000→QuitsD P n d (g' k)) ∧
        (∀ w k,w.cell? st=some (.int .u64 ((k + 1:Nat) * 4294967296 + 1))→w.frozen? st=false→k < 1000→stepG P false g w=.go (g'' k) (w.setCell st (.int .u64 ((k:Nat) * 4294967296 + 1))) es)∧(∀ k,k < 1000→0 < k→QuitsD P n d (g'' k))∧Lasts P st n 0 d (g'' 0)))
def alive (A:Nat→Bool):Nat→Nat
  | 0=>0
  | n + 1=>alive A n + (if A n then 1 else 0)
theorem alive_upd {A:Nat→Bool} {i:Nat} (h:A i=true):∀ {n:Nat},i < n→alive (upd A i false) n + 1=alive A n
  | 0,hn=>by omega
  | n + 1,hn=>by
    by_cases e:i=n
    · subst e
      have:∀ m,m≤i→alive (upd A i false) m=alive A m:=fun m hm=>by
        induction m with
        | zero=>rfl
        | succ m ih =>
          have hne:m≠i:=by omega
          simp only [alive,ih (by omega),upd,if_neg hne]
      simp only [alive,this i (Nat.le_refl _),upd_same,h]
      simp
    · have:=alive_upd h (n:=n) (by omega)
      have hne:n≠i:=fun x=>e x.symm
      simp only [alive,upd,if_neg hne]
      omega
theorem alive_pos {A:Nat→Bool} {i:Nat} (h:A i=true) {n:Nat} (hi:i < n):0 < alive A n:=by have:=alive_upd h hi;omega
def IdleR (P:Program) (K:World→Prop) (S:Nat→Loc→Prop) (st:Addr) (T:Trace) (i n:Nat) (g:Goroutine):Role→Prop
  | .seat c z ok home=>SitsS P (i == 0) K (S i) c z ok home n g
  | .done=>0 < i∧Dones P st n (Deaf T i) g
  | .leave=>0 < i∧QuitsD P n (Deaf T i) g
section
variable {P:Program} {K:World→Prop} {S:Loc→Prop} {c:Nat} {z:Value} {ok:Bool} {home:Goroutine→Prop} {st:Addr}
theorem SitsS.status {main:Bool} {n:Nat} {g:Goroutine} {w:World} (hK:K w) (h:SitsS P main K S c z ok home n g):(g.status=.running∧0 < n)∨(g.status=.blocked∧n=0):=by
  rcases h with ⟨k,w₀,rfl,hg⟩ | ⟨rfl,_,g₂,rfl,_⟩
  · refine .inl ⟨?_,by omega⟩
    cases k with
    | zero=>exact (hg w hK).choose_spec.1
    | succ k=>exact hg.elim (fun x=>(x w hK).choose_spec.1) (·.1)
  · exact .inr ⟨rfl,rfl⟩
theorem Dones.status:∀ {n d:Nat} {g:Goroutine},Dones P st n d g→g.status=.running
  | 0,_,_,h=>h.elim
  | _ + 1,_,_,h=>h.1
end
def LowT (T:Trace) (B:Nat):Prop:=∀ i a x,touchAt T i=some a→a.loc=.cell x→x.block < B
theorem LowT.app {T u:Trace} {B B':Nat} (h:LowT T B) (hB:B≤B') (hu:∀ op∈u,∀ b x,op.act.touch?=some b→b.loc=.cell x→x.block < B'):LowT (T ++ u) B':=fun i a x ha hx=>by
  obtain ⟨y,hy,hya⟩:=touch_of ha
  rcases getElem?_append_cases hy with ⟨_,hy'⟩ | ⟨_,hyu⟩
  · exact Nat.lt_of_lt_of_le (h i a x (by rw [touchAt_of hy'];exact hya) hx) hB
  · exact hu y hyu a x hya hx
theorem LowT.mute {T u:Trace} {B:Nat} (h:LowT T B) (hu:∀ op∈u,op.act.touch?=none):LowT (T ++ u) B:=h.app (Nat.le_refl _) fun op hop b x hb=>by rw [hu op hop] at hb;cases hb
theorem LowT.mono {T:Trace} {B B':Nat} (h:LowT T B) (hB:B≤B'):LowT T B':=fun i a x ha hx=>Nat.lt_of_lt_of_le (h i a x ha hx) hB
structure Core (P:Program) (K:World→Prop) (S:Nat→Loc→Prop) (Shun:Loc→Prop) (st:Addr) (Kf:Trace→Nat→Prop) (Rl:Nat→Role) (A:Nat→Bool) (Sp Dead:Nat→Prop) (T:Trace) (gs:Array Goroutine) (w:World) (q:Nat→Nat):Prop where
  idle:∀ i g,¬ Sp i→gs[i]?=some g→IdleR P K S st T i (q i) g (Rl i)
  chans:∀ i c,¬ Dead i→(Rl i).has c→∃ cap k,w.heap[c]?=some (.chan cap #[] false k k false)
  live:∀ i g,Dead i→gs[i]?=some g→g.status=.running
  deadSeat:∀ i,Dead i→(Rl i).sits
  inj:∀ i i' c,(Rl i).has c→(Rl i').has c→i=i'
  above:∀ j,gs.size≤j→Deaf T j=0
  aliveD:∀ i,¬ Sp i→Rl i=.done→A i=true∧st.spot=none
  past:PastR Shun S (fun g=>¬ Sp g∧(Rl g).sits) (fun g=>¬ Sp g∧(Rl g).sits) (Kf T) T
  shun:st.spot=none→Shun (.cell st)
  keep:K w
  cell:st.spot=none→w.cell? st=some (.int .u64 (alive A (gs.size + 1) * 4294967296))∧w.frozen? st=false
  few:alive A (gs.size + 1) < 1000
  low:LowT T w.heap.size
  slow:∀ i x,(Rl i).sits→S i (.cell x)→x.block < w.heap.size
  aliveC:∀ i,i < gs.size→¬ Sp i→A i=true→Rl i≠.leave
section
variable {P:Program} {K:World→Prop} {S:Nat→Loc→Prop} {Shun:Loc→Prop} {st:Addr} {Kf:Trace→Nat→Prop} {Rl:Nat→Role} {A:Nat→Bool} {Sp Dead:Nat→Prop} {T:Trace} {gs:Array Goroutine} {w:World} {q:Nat→Nat}
theorem IdleR.again {i n:Nat} {g:Goroutine} {r:Role} (hK:K w) (h:IdleR P K S st T i n g r) (hc:∀ c,r.has c→∃ cap k,w.heap[c]?=some (.chan cap #[] false k k false)):g.again w=g:=by
  cases r with
  | seat c z ok home =>
    rcases SitsS.status hK h with ⟨h1,_⟩ | ⟨_,h2⟩
    · exact again_running w (.inl h1)
    · rcases h with ⟨k,_,h3,_⟩ | ⟨_,_,g₂,rfl,_⟩
      · omega
      · obtain ⟨cap,k,hk⟩:=hc c rfl
        exact again_recv_open hk
  | done=>exact again_running w (.inl (Dones.status h.2))
  | leave=>exact again_running w h.2.status
theorem IdleR.noSend {i n:Nat} {g:Goroutine} {r:Role} (hK:K w) (h:IdleR P K S st T i n g r) (c:Nat):offersAt g c true=[]:=by
  cases r with
  | seat d z ok home =>
    rcases SitsS.status hK h with ⟨h1,_⟩ | ⟨_,h2⟩
    · exact offersAt_of_not_blocked (fun hb=>by rw [h1] at hb;cases hb) c true
    · rcases h with ⟨k,_,h3,_⟩ | ⟨_,_,g₂,rfl,_⟩
      · omega
      · exact offersAt_parked_recv' ..
  | done=>exact offersAt_of_not_blocked (fun hb=>by rw [Dones.status h.2] at hb;cases hb) c true
  | leave=>exact offersAt_of_not_blocked (fun hb=>by rcases h.2.status with x | x <;> rw [x] at hb <;> cases hb) c true
theorem IdleR.noRecv {i n:Nat} {g:Goroutine} {r:Role} (hK:K w) (h:IdleR P K S st T i n g r) {c:Nat} (hc:¬ r.has c):offersAt g c false=[]:=by
  cases r with
  | seat d z ok home =>
    rcases SitsS.status hK h with ⟨h1,_⟩ | ⟨_,h2⟩
    · exact offersAt_of_not_blocked (fun hb=>by rw [h1] at hb;cases hb) c false
    · rcases h with ⟨k,_,h3,_⟩ | ⟨_,_,g₂,rfl,_⟩
      · omega
      · rw [offersAt_parked_recv,if_neg (fun e=>hc e.symm)]
  | done=>exact offersAt_of_not_blocked (fun hb=>by rw [Dones.status h.2] at hb;cases hb) c false
  | leave=>exact offersAt_of_not_blocked (fun hb=>by rcases h.2.status with x | x <;> rw [x] at hb <;> cases hb) c false
theorem Core.fixed (C:Core P K S Shun st Kf Rl A Sp Dead T gs w q) {x:Nat} {y:Goroutine} (hx:¬ Sp x) (hy:gs[x]?=some y):y.again w=y:=by
  by_cases hD:Dead x
  · exact again_running w (.inl (C.live x y hD hy))
  · exact IdleR.again C.keep (C.idle x y hx hy) fun c hc=>C.chans x c hD hc
theorem Core.noSend (C:Core P K S Shun st Kf Rl A Sp Dead T gs w q) {x:Nat} {y:Goroutine} (hx:¬ Sp x) (hy:gs[x]?=some y) (c:Nat):offersAt y c true=[]:=IdleR.noSend C.keep (C.idle x y hx hy) c
theorem Core.noRecvAt (C:Core P K S Shun st Kf Rl A Sp Dead T gs w q) {x:Nat} {y:Goroutine} (hx:¬ Sp x) (hy:gs[x]?=some y) {c:Nat} (hc:¬ (Rl x).has c):offersAt y c false=[]:=IdleR.noRecv C.keep (C.idle x y hx hy) hc
theorem Core.at (hKat:∀ w d,K w→K (w.at d)) (C:Core P K S Shun st Kf Rl A Sp Dead T gs w q) (d:Nat):Core P K S Shun st Kf Rl A Sp Dead T gs (w.at d) q :=
  ⟨C.idle,C.chans,C.live,C.deadSeat,C.inj,C.above,C.aliveD,C.past,C.shun,hKat _ _ C.keep,C.cell,C.few,C.low,C.slow,C.aliveC⟩
def RW (st:Addr) (w w₁:World):Prop:=(∃ d,w₁=w.at d)∨∃ n n₁ d,w.cell? st=some (.int .u64 (n * 4294967296:Nat))∧n₁≤n∧w₁=(w.setCell st (.int .u64 (n₁ * 4294967296:Nat))).at d
theorem setCell_same {w:World} {a:Addr} {v:Value} (h:w.cell? a=some v):w.setCell a v=w:=by
  obtain ⟨c,e,f,h1,h2,h3⟩:=cell_some h
  have hh:(w.setCell a v).heap=w.heap:=by
    apply Array.ext_getElem?
    intro k
    by_cases e1:k=a.block
    · subst e1
      rw [setCell_self v h1 h2,h1]
      congr 2
      apply Array.ext_getElem?
      intro j
      rw [Array.getElem?_setIfInBounds]
      split
      · rename_i e2
        subst e2
        split
        · exact h3.symm
        · rename_i h4;simp at h4;simp [h4]
      · rfl
    · rw [setCell_ne w a v e1]
  cases w
  simp only [World.setCell] at hh ⊢
  simp_all
theorem RW.at {st:Addr} {w:World} (d:Nat):RW st w (w.at d):=.inl ⟨d,rfl⟩
theorem RW.refl {st:Addr} {w:World}:RW st w w:=.inl ⟨w.drawn,rfl⟩
theorem cell_set {w:World} {a:Addr} {v x:Value} (h:w.cell? a=some v):(w.setCell a x).cell? a=some x:=by
  obtain ⟨c,e,f,h1,h2,h3⟩:=cell_some h
  rw [cell_of (setCell_self x h1 h2) h2]
  have:=(Array.getElem?_eq_some_iff.1 h3).1
  simp [this]
theorem frozen_set (w:World) (a b:Addr) (x:Value):(w.setCell a x).frozen? b=w.frozen? b:=by
  unfold World.frozen?
  by_cases e:b.block=a.block
  · cases ho:w.heap[b.block]? with
    | none=>simp only [World.setCell,Array.getElem?_modify,ho,Option.map_none,ite_self]
    | some o =>
      simp only [World.setCell,Array.getElem?_modify,ho]
      rw [if_pos e.symm]
      cases o <;> rfl
  · rw [setCell_ne w a x e]
theorem setCell_set {w:World} (a:Addr) (x y:Value):(w.setCell a x).setCell a y=w.setCell a y:=by
  have hh:((w.setCell a x).setCell a y).heap=(w.setCell a y).heap:=by
    apply Array.ext_getElem?
    intro k
    by_cases e1:k=a.block
    · subst e1
      cases ho:w.heap[a.block]? with
      | none=>simp [World.setCell,Array.getElem?_modify,ho]
      | some o =>
        cases o <;> simp [World.setCell,Array.getElem?_modify,ho]
        split <;> simp
    · rw [setCell_ne _ a y e1,setCell_ne w a x e1,setCell_ne w a y e1]
  cases w
  simp only [World.setCell] at hh ⊢
  simp_all
theorem RW.trans {st:Addr} {a b c:World} (h:RW st a b) (k:RW st b c):RW st a c:=by
  rcases h with ⟨d,rfl⟩ | ⟨n,n₁,d,h1,h2,rfl⟩
  · rcases k with ⟨d',rfl⟩ | ⟨m,m₁,d',h3,h4,rfl⟩
    · exact .inl ⟨d',rfl⟩
    · exact .inr ⟨m,m₁,d',h3,h4,rfl⟩
  · rcases k with ⟨d',rfl⟩ | ⟨m,m₁,d',h3,h4,rfl⟩
    · exact .inr ⟨n,n₁,d',h1,h2,rfl⟩
    have e:m=n₁:=by
      have h5:(a.setCell st (.int .u64 (n₁ * 4294967296:Nat))).cell? st=some (.int .u64 (m * 4294967296:Nat)):=h3
      rw [cell_set h1] at h5
      have:=Option.some.inj h5
      injection this with _ h6
      omega
    subst e
    refine .inr ⟨n,m₁,d',h1,by omega,?_⟩
    have:((a.setCell st (.int .u64 (m * 4294967296:Nat))).at d).setCell st (.int .u64 (m₁ * 4294967296:Nat))=(a.setCell st (.int .u64 (m₁ * 4294967296:Nat))).at d:=by
      show ((a.setCell st (.int .u64 (m * 4294967296:Nat))).setCell st _).at d=_
      rw [setCell_set]
    rw [this]
    rfl
theorem RW.size {st:Addr} {w w₁:World} (h:RW st w w₁):w₁.heap.size=w.heap.size:=by
  rcases h with ⟨d,rfl⟩ | ⟨n,n₁,d,_,_,rfl⟩
  · rfl
  · exact setCell_size _ _ _
theorem Core.put (C:Core P K S Shun st Kf Rl A Sp Dead T gs w q) {i n':Nat} {g':Goroutine} {ops:Array MemOp} {gs':Array Goroutine} (hsp:¬ Sp i) (hlt:i < gs.size) (hsz:gs'.size=gs.size) (hother:∀ x,x≠i→gs'[x]?=gs[x]?) (hself:gs'[i]?=some g')
    (hops:∀ op∈ops,op.g=i) (hlive:Dead i→g'.status=.running) (hidle:IdleR P K S st (T ++ ops) i n' g' (Rl i)) (hpast:PastR Shun S (fun g=>¬ Sp g∧(Rl g).sits) (fun g=>¬ Sp g∧(Rl g).sits) (Kf (T ++ ops)) (T ++ ops)) (hlow:∀ op∈ops,∀ b x,op.act.touch?=some b→b.loc=.cell x→x.block < w.heap.size) :
    Core P K S Shun st Kf Rl A Sp Dead (T ++ ops) gs' w (upd q i n'):=by
  refine ⟨fun x y hx hy=>?_,C.chans,fun x y hx hy=>?_,C.deadSeat,C.inj,fun j hj=>?_,C.aliveD,hpast,C.shun,C.keep,by rw [hsz];exact C.cell,by rw [hsz];exact C.few,C.low.app (Nat.le_refl _) hlow,C.slow,by rw [hsz];exact C.aliveC⟩
  · by_cases e:x=i
    · subst e
      rw [hself] at hy
      obtain rfl:=Option.some.inj hy
      rw [upd_same];exact hidle
    · rw [hother x e] at hy
      rw [upd_ne q n' e]
      have h:=C.idle x y hx hy
      cases es:Rl x with
      | seat c z ok home=>rw [es] at h;exact h
      | done=>rw [es] at h;exact ⟨h.1,by rw [Deaf_other T (fun z=>e z.symm) ops hops];exact h.2⟩
      | leave=>rw [es] at h;exact ⟨h.1,by rw [Deaf_other T (fun z=>e z.symm) ops hops];exact h.2⟩
  · by_cases e:x=i
    · subst e
      rw [hself] at hy
      obtain rfl:=Option.some.inj hy
      exact hlive hx
    · rw [hother x e] at hy
      exact C.live x y hx hy
  · rw [Deaf_other T (g':=i) (by omega) ops hops]
    exact C.above j (by omega)
theorem touchNone_of {i:Nat} {fn:FuncId} {pos:String} {es:Array Event} (h:∀ e∈es,(MemAct.ofEvent e).touch?=none):∀ op∈MemOp.ofEvents i fn pos es,op.act.touch?=none:=fun op hop=>by
  obtain ⟨e,he,rfl⟩:=Go.Conc.mem_ofEvents hop
  exact h e he
theorem own_of {i:Nat} {fn:FuncId} {pos:String} {es:Array Event}:∀ op∈MemOp.ofEvents i fn pos es,op.g=i:=fun op hop=>by
  obtain ⟨e,he,rfl⟩:=Go.Conc.mem_ofEvents hop
  rfl
theorem evI_ops {i:Nat} {fn:FuncId} {pos:String} {es:Array Event} {S:Loc→Prop} (h:∀ e∈es,EvI S e) :
    (∀ op∈MemOp.ofEvents i fn pos es,∀ b,op.act.touch?=some b→b.write=false∧S b.loc)∧∀ t:Trace,Deaf (t ++ MemOp.ofEvents i fn pos es) i=Deaf t i:=by
  refine ⟨fun op hop b hb=>?_,fun t=>?_⟩
  · obtain ⟨e,he,rfl⟩:=Go.Conc.mem_ofEvents hop
    obtain ⟨a,rfl,hS⟩:=h e he
    simp only [ofEvent_cell0,MemAct.touch?,Option.some.injEq] at hb
    subst hb
    exact ⟨rfl,hS⟩
  · rw [Deaf_own]
    exact deafBehind_still (fun e he=>by obtain ⟨a,rfl,_⟩:=h e he;exact ⟨by simp,by simp⟩) _
theorem evS_ops {i:Nat} {fn:FuncId} {pos:String} {es:Array Event} (h:∀ e∈es,∃ b,e=⟨.cell st,b,true⟩) :
    (∀ op∈MemOp.ofEvents i fn pos es,∀ b,op.act.touch?=some b→b.loc=.cell st∧b.kind=.atomic)∧(∀ op∈MemOp.ofEvents i fn pos es,∀ d,deafStep i d op=d):=by
  refine ⟨fun op hop b hb=>?_,fun op hop d=>?_⟩
  · obtain ⟨e,he,rfl⟩:=Go.Conc.mem_ofEvents hop
    obtain ⟨wr,rfl⟩:=h e he
    simp only [ofEvent_cell0,MemAct.touch?,Option.some.injEq] at hb
    subst hb
    exact ⟨rfl,rfl⟩
  · obtain ⟨e,he,rfl⟩:=Go.Conc.mem_ofEvents hop
    obtain ⟨wr,rfl⟩:=h e he
    rfl
theorem Core.by_step (hKat:∀ w d,K w→K (w.at d)) (hKst:∀ w x,K w→K (w.setCell st x)) (hKf:∀ t u i,Kf t i→Kf (t ++ u) i) (C:Core P K S Shun st Kf Rl A Sp Dead T gs w q) {i:Nat} {g:Goroutine} {sl:Option (Nat × Nat)} (hi:gs[i]?=some g) (hsp:¬ Sp i) (hrun:g.status=.running)
    (hsA:∀ x gx w',Sp x→gs[x]?=some gx→(∀ c,(Rl x).has c→w'.heap[c]?=w.heap[c]?)→(w'=w∨∃ v,w'=w.setCell st v)→gx.again w'=gx) (hstc:∀ x c,(Rl x).has c→c≠st.block)
    (hsO:∀ c z ok home g₂,Rl i=.seat c z ok home→AtS P (i == 0) K (S i) c z ok home g g₂→¬ Dead i∧∀ x gx,Sp x→gs[x]?=some gx→offersAt gx c true=[]) :
    ∃ (gs':Array Goroutine) (ops:Array MemOp) (q':Nat→Nat) (w':World) (Rl':Nat→Role) (A':Nat→Bool),runT P (crowd gs w sl) i=(.next (crowd gs' w' sl),ops)∧gs'.size=gs.size∧(∀ x,Sp x→gs'[x]?=gs[x]?)∧(∀ x,x≠i→q' x=q x∧Rl' x=Rl x∧A' x=A x) ∧
      ((Rl i).sits→Rl' i=Rl i∧A' i=A i)∧(∀ c z ok home,Rl i=.seat c z ok home→q' i=0→∃ g₂,AtS P (i == 0) K (S i) c z ok home g g₂)∧(RW st w w'∧∀ x,A' x=true→A x=true)∧(Rl'=Rl∨(Rl i=.done∧Rl' i=.leave))∧(∀ op∈ops,op.g=i) ∧
      Core P K S Shun st Kf Rl' A' Sp Dead (T ++ ops) gs' w' q'∧sumTo gs.size q' < sumTo gs.size q:=by
  have hlt:i < gs.size:=(Array.getElem?_eq_some_iff.1 hi).1
  have hne:∀ x,Sp x→x≠i:=fun x hx e=>hsp (e ▸ hx)
  have hRW:RW st w w:=RW.refl
  have hsum:∀ k,q i=k + 1→∀ n',n'≤k→sumTo gs.size (upd q i n') < sumTo gs.size q:=by
    intro k hqi n' hn
    have h2:sumTo gs.size (upd q i n') + (k + 1)=sumTo gs.size q + n':=by
      have:=sumTo_upd q n' id hlt
      simpa [hqi] using this
    omega
  have hnd:¬ (Rl i).sits→¬ Dead i:=fun h hD=>h (C.deadSeat i hD)
  have hfixw:∀ (w':World),(w'=w∨∃ v,w'=w.setCell st v)→(∀ x c,(Rl x).has c→w'.heap[c]?=w.heap[c]?)→K w'→∀ (a a':Goroutine) (x:Nat) (y:Goroutine),gs[x]?=some y→woken P a a' w' y=y:=fun w' hw' hc hK a a' x y hy=>by
    unfold woken
    split
    · by_cases hx:Sp x
      · exact hsA x y w' hx hy (fun c h=>hc x c h) hw'
      · by_cases hD:Dead x
        · exact again_running w' (.inl (C.live x y hD hy))
        · exact IdleR.again hK (C.idle x y hx hy) fun c h=>by rw [hc x c h];exact C.chans x c hD h
    · rfl
  have harr:∀ (w':World),(w'=w∨∃ v,w'=w.setCell st v)→(∀ x c,(Rl x).has c→w'.heap[c]?=w.heap[c]?)→K w'→∀ (g':Goroutine) (x:Nat),x≠i→((gs.map (woken P g g' w')).setIfInBounds i g')[x]?=gs[x]?:=by
    intro w' h1 h2 h3 g' x hx
    rw [Array.getElem?_setIfInBounds_ne (fun e=>hx e.symm),Array.getElem?_map]
    cases e:gs[x]? with
    | none=>rfl
    | some y=>simp [hfixw w' h1 h2 h3 g g' x y e]
  have hself:∀ (w':World) (g':Goroutine),((gs.map (woken P g g' w')).setIfInBounds i g')[i]?=some g':=fun w' g'=>Array.getElem?_setIfInBounds_self_of_lt (by simpa using hlt)
  have hid:=C.idle i g hsp hi
  obtain ⟨r,e⟩:∃ r,Rl i=r:=⟨_,rfl⟩
  cases r with
  | leave =>
    rw [e] at hid
    obtain ⟨hpos,hq⟩:=hid
    have hi0:(i == 0)=false:=by simp;omega
    cases hqi:q i with
    | zero=>rw [hqi] at hq;rw [hq.1] at hrun;cases hrun
    | succ k =>
      rw [hqi] at hq
      rcases hq with ⟨hf,_⟩ | ⟨_,g',es,hm,hstp,hq'⟩
      · rw [hf] at hrun;cases hrun
      refine ⟨_,_,upd q i k,w,Rl,A,runT_crowd_go (sl:=sl) hi (by rw [hi0];exact hstp w),by simp,fun x hx=>harr w (.inl rfl) (fun _ _ _=>rfl) C.keep _ x (hne x hx),fun x hx=>⟨upd_ne q k hx,rfl,rfl⟩,fun _=>⟨rfl,rfl⟩,fun c z ok home hs _=>(by rw [e] at hs;cases hs),⟨hRW,fun _ h=>h⟩,.inl rfl,own_of,?_,hsum k hqi k (Nat.le_refl _)⟩
      refine C.put hsp hlt (by simp) (harr w (.inl rfl) (fun _ _ _=>rfl) C.keep _) (hself _ _) own_of (fun hD=>absurd hD (hnd (by rw [e];exact fun h=>h))) (by rw [e];exact ⟨hpos,by rw [Deaf_own];exact hq'⟩) ?_ ?_
      · exact PastR.appMute C.past (hKf T _) own_of (touchNone_of fun e he=>touch_mute (hm e he)) (fun hM=>absurd hM.2 (by rw [e];exact fun h=>h))
      · exact fun op hop b x hb=>by have h0:=touchNone_of (fun e he=>touch_mute (hm e he)) op hop;rw [h0] at hb;cases hb
  | done =>
    rw [e] at hid
    obtain ⟨hpos,hq⟩:=hid
    have hi0:(i == 0)=false:=by simp;omega
    cases hqi:q i with
    | zero=>rw [hqi] at hq;exact hq.elim
    | succ k =>
      rw [hqi] at hq
      obtain ⟨_,hq⟩:=hq
      rcases hq with ⟨g',es,hm,hstp,hq'⟩ | ⟨hd,g',_,es,hes,hstp,hq',_,_,_⟩
      · refine ⟨_,_,upd q i k,w,Rl,A,runT_crowd_go (sl:=sl) hi (by rw [hi0];exact hstp w _ (C.cell (C.aliveD i hsp e).2).1),by simp,fun x hx=>harr w (.inl rfl) (fun _ _ _=>rfl) C.keep _ x (hne x hx),fun x hx=>⟨upd_ne q k hx,rfl,rfl⟩,fun _=>⟨rfl,rfl⟩,fun c z ok home hs _=>(by rw [e] at hs;cases hs),⟨hRW,fun _ h=>h⟩,.inl rfl,own_of,?_,hsum k hqi k (Nat.le_refl _)⟩
        refine C.put hsp hlt (by simp) (harr w (.inl rfl) (fun _ _ _=>rfl) C.keep _) (hself _ _) own_of (fun hD=>absurd hD (hnd (by rw [e];exact fun h=>h))) (by rw [e];exact ⟨hpos,by rw [Deaf_own];exact hq'⟩) ?_ ?_
        · exact PastR.appMute C.past (hKf T _) own_of (touchNone_of hm) (fun hM=>absurd hM.2 (by rw [e];exact fun h=>h))
        · exact fun op hop b x hb=>by have h0:=touchNone_of hm op hop;rw [h0] at hb;cases hb
      ·
        obtain ⟨hA,hspot⟩:=C.aliveD i hsp e
        have hCc:=C.cell hspot
        have hal:=alive_upd hA (n:=gs.size + 1) (Nat.lt_succ_of_lt hlt)
        have hst:=hstp w (alive (upd A i false) (gs.size + 1)) (by rw [hal];exact hCc.1) hCc.2 (by have:=C.few;omega)
        generalize hkk:alive (upd A i false) (gs.size + 1)=kk at hal hst
        have hw':(w.setCell st (.int .u64 (kk * 4294967296:Nat)))=w∨∃ v,(w.setCell st (.int .u64 (kk * 4294967296:Nat)))=w.setCell st v:=.inr ⟨_,rfl⟩
        have hc':∀ x c,(Rl x).has c→(w.setCell st (.int .u64 (kk * 4294967296:Nat))).heap[c]?=w.heap[c]?:=fun x c h=>setCell_ne w st _ (hstc x c h)
        have hK':=hKst w (.int .u64 (kk * 4294967296:Nat)) C.keep
        obtain ⟨o1,o2⟩:=evS_ops (i:=i) (fn:=g.frame.fn) (pos:=g.frame.place) hes
        have hq2:=hq' kk (by have:=C.few;omega)
        refine ⟨_,_,upd q i k,_,upd Rl i .leave,upd A i false,runT_crowd_go (sl:=sl) hi (by rw [hi0];exact hst),by simp,fun x hx=>harr _ hw' hc' hK' _ x (hne x hx),fun x hx=>⟨upd_ne q k hx,upd_ne Rl _ hx,upd_ne A _ hx⟩,fun h=>(by rw [e] at h;exact h.elim),fun c z ok home hs _=>(by rw [e] at hs;cases hs),
          ⟨.inr ⟨kk + 1,kk,w.drawn,by rw [hal];exact hCc.1,by omega,rfl⟩,fun x hx=>by
            by_cases ex:x=i
            · subst ex;rw [upd_same] at hx;cases hx
            · rwa [upd_ne A _ ex] at hx⟩,.inr ⟨e,upd_same ..⟩,own_of,?_,hsum k hqi k (Nat.le_refl _)⟩
        have hRle:∀ x,x≠i→upd Rl i Role.leave x=Rl x:=fun x hx=>upd_ne Rl _ hx
        have hRi:upd Rl i Role.leave i=.leave:=upd_same ..
        have hhas:∀ x c,(upd Rl i Role.leave x).has c→(Rl x).has c:=fun x c h=>by
          by_cases ex:x=i
          · subst ex;rw [hRi] at h;exact h.elim
          · rwa [hRle x ex] at h
        refine ⟨fun x y hx hy=>?_,fun x c hD h=>by rw [hc' x c (hhas x c h)];exact C.chans x c hD (hhas x c h),fun x y hx hy=>?_,fun x hD=>?_,fun x x' c h h'=>C.inj x x' c (hhas _ _ h) (hhas _ _ h'),fun j hj=>?_,fun x hx h=>?_,?_,C.shun,hK',fun _=>⟨?_,?_⟩,?_,?_,fun x y h1 h2=>?_,fun x hx hsx hAx=>?_⟩
        · by_cases ex:x=i
          · subst ex
            rw [hself] at hy
            obtain rfl:=Option.some.inj hy
            rw [hRi,upd_same]
            refine ⟨hpos,?_⟩
            rw [Deaf_quiet o2]
            exact hq2
          · rw [harr _ hw' hc' hK' _ x ex] at hy
            rw [hRle x ex,upd_ne q k ex]
            have h:=C.idle x y hx hy
            cases es':Rl x with
            | seat c z ok home=>rw [es'] at h;exact h
            | done=>rw [es'] at h;exact ⟨h.1,by rw [Deaf_other T (fun z=>ex z.symm) _ own_of];exact h.2⟩
            | leave=>rw [es'] at h;exact ⟨h.1,by rw [Deaf_other T (fun z=>ex z.symm) _ own_of];exact h.2⟩
        · by_cases ex:x=i
          · subst ex;exact absurd hx (hnd (by rw [e];exact fun h=>h))
          · rw [harr _ hw' hc' hK' _ x ex] at hy;exact C.live x y hx hy
        · by_cases ex:x=i
          · subst ex;exact absurd hD (hnd (by rw [e];exact fun h=>h))
          · rw [hRle x ex];exact C.deadSeat x hD
        · rw [Deaf_other T (g':=i) (by simp at hj;omega) _ own_of]
          exact C.above j (by simpa using hj)
        · by_cases ex:x=i
          · subst ex;rw [hRi] at h;cases h
          · rw [hRle x ex] at h;rw [upd_ne A _ ex];exact C.aliveD x hx h
        · have hsame:(fun g=>¬ Sp g∧(upd Rl i Role.leave g).sits)=fun g=>¬ Sp g∧(Rl g).sits:=by
            funext x
            by_cases ex:x=i
            · subst ex;rw [hRi,e];rfl
            · rw [hRle x ex]
          rw [hsame]
          exact PastR.appShun C.past (hKf T _) own_of (fun op hop b hb=>by obtain ⟨h1,h2⟩:=o1 op hop b hb;exact ⟨h1 ▸ C.shun hspot,h2⟩) o2 hd
        · have e1:alive (upd A i false) (((gs.map (woken P g (g' kk) (w.setCell st (.int .u64 (kk * 4294967296:Nat))))).setIfInBounds i (g' kk)).size + 1)=kk:=by rw [← hkk];simp
          rw [e1];exact cell_set hCc.1
        · rw [frozen_set];exact hCc.2
        · have e1:alive (upd A i false) (((gs.map (woken P g (g' kk) (w.setCell st (.int .u64 (kk * 4294967296:Nat))))).setIfInBounds i (g' kk)).size + 1)=kk:=by rw [← hkk];simp
          rw [e1];have:=C.few;omega
        · refine C.low.app (by rw [setCell_size];exact Nat.le_refl _) fun op hop b x hb hx=>?_
          obtain ⟨h1,_⟩:=o1 op hop b hb
          rw [h1] at hx
          cases hx
          rw [setCell_size]
          obtain ⟨_,_,_,h2,_⟩:=cell_some hCc.1
          exact (Array.getElem?_eq_some_iff.1 h2).1
        · rw [setCell_size]
          by_cases ex:x=i
          · subst ex;rw [hRi] at h1;exact h1.elim
          · rw [hRle x ex] at h1;exact C.slow x y h1 h2
        · by_cases ex:x=i
          · subst ex;rw [upd_same] at hAx;cases hAx
          · rw [upd_ne A _ ex] at hAx;rw [hRle x ex];exact C.aliveC x (by simpa using hx) hsx hAx
  | seat c z ok home =>
    rw [e] at hid
    have hL:¬ Sp i∧(Rl i).sits:=⟨hsp,by rw [e];trivial⟩
    obtain ⟨k,w₀,hqi,hg⟩:∃ k w₀,q i=k + 1∧Goes P (i == 0) (RKI K) (DI (S i)) (fun g _=>∃ g₂,AtS P (i == 0) K (S i) c z ok home g g₂) k g w₀:=by
      rcases hid with h | ⟨_,_,g₂,rfl,_⟩
      · exact h
      · cases hrun
    have hcase:(∃ g₂,AtS P (i == 0) K (S i) c z ok home g g₂)∨∃ k' g' es d,k=k' + 1∧stepG P (i == 0) g w=.go g' (w.at d) es∧(∀ e∈es,EvI (S i) e)∧Goes P (i == 0) (RKI K) (DI (S i)) (fun g _=>∃ g₂,AtS P (i == 0) K (S i) c z ok home g g₂) k' g' (w.at d):=by
      cases k with
      | zero=>exact .inl (hg w C.keep)
      | succ k' =>
        rcases hg with hstop | ⟨_,hstep⟩
        · exact .inl (hstop w C.keep)
        · have hs:=hstep w C.keep
          cases hgo:stepG P (i == 0) g w with
          | go g' w' es =>
            rw [hgo,goes_go] at hs
            obtain ⟨⟨⟨d,rfl⟩,hes⟩,hG'⟩:=hs
            exact .inr ⟨k',g',es,d,rfl,rfl,hes,hG'⟩
          | _=>rw [hgo] at hs;exact hs.elim
    rcases hcase with ⟨g₂,hat⟩ | ⟨k',g',es,dd,rfl,hgo,hes,hG'⟩
    · obtain ⟨hnD,hsO'⟩:=hsO c z ok home g₂ e hat
      obtain ⟨_,_,_,_,_,es,hes,hstp⟩:=id hat
      obtain ⟨hr,hd⟩:=evI_ops (i:=i) (fn:=g.frame.fn) (pos:=g.frame.place) hes
      have hw:∀ cc∈#[rcase c z],NoWays w (gs.setIfInBounds i ph) cc:=by
        intro cc hcc
        simp only [List.mem_toArray,List.mem_cons,List.not_mem_nil,or_false] at hcc
        subst hcc
        obtain ⟨cap,kk,hc⟩:=C.chans i c hnD (by rw [e];rfl)
        refine ways_recv_none hc (partners_nil fun x y hy=>?_)
        rcases getElem?_stand gs i x y hy with ⟨_,rfl⟩ | ⟨hx,hy'⟩
        · exact offersAt_ph _ _
        · by_cases hS:Sp x
          · exact hsO' x y hS hy'
          · exact C.noSend hS hy' _
      refine ⟨_,_,upd q i 0,w,Rl,A,crowd_waits (sl:=sl) hi (hstp w C.keep) hw,by simp,fun x hx=>Array.getElem?_setIfInBounds_ne (fun z=>hne x hx z.symm),fun x hx=>⟨upd_ne q 0 hx,rfl,rfl⟩,fun _=>⟨rfl,rfl⟩,fun c' z' ok' home' hs' _=>(by rw [e] at hs';cases hs';exact ⟨g₂,hat⟩),⟨hRW,fun _ h=>h⟩,.inl rfl,own_of,?_,hsum k hqi 0 (Nat.zero_le _)⟩
      refine C.put hsp hlt (by simp) (fun x hx=>Array.getElem?_setIfInBounds_ne (fun z=>hx z.symm)) (Array.getElem?_setIfInBounds_self_of_lt hlt) own_of (fun hD=>absurd hD hnD) (by rw [e];exact .inr ⟨rfl,g,g₂,rfl,hat⟩) ?_ ?_
      · exact PastR.appRead C.past (hKf T _) hL own_of hr (hd T)
      · exact fun op hop b x hb hx=>C.slow i x hL.2 (hx ▸ (hr op hop b hb).2)
    · obtain ⟨hr,hd⟩:=evI_ops (i:=i) (fn:=g.frame.fn) (pos:=g.frame.place) hes
      have harr':∀ (x:Nat),x≠i→((gs.map (woken P g g' (w.at dd))).setIfInBounds i g')[x]?=gs[x]?:=fun x hx=>by
        rw [Array.getElem?_setIfInBounds_ne (fun e=>hx e.symm),Array.getElem?_map]
        cases ey:gs[x]? with
        | none=>rfl
        | some y =>
          have:woken P g g' (w.at dd) y=y:=by
            unfold woken
            split
            · by_cases hxs:Sp x
              · exact hsA x y w hxs ey (fun _ _=>rfl) (.inl rfl)
              · by_cases hD:Dead x
                · exact again_running _ (.inl (C.live x y hD ey))
                · exact IdleR.again (w:=w.at dd) (hKat _ _ C.keep) (C.idle x y hxs ey) fun c h=>C.chans x c hD h
            · rfl
          simp [this]
      refine ⟨_,_,upd q i (k' + 1),w.at dd,Rl,A,runT_crowd_go (sl:=sl) hi hgo,by simp,fun x hx=>harr' x (hne x hx),fun x hx=>⟨upd_ne q _ hx,rfl,rfl⟩,fun _=>⟨rfl,rfl⟩,fun c' z' ok' home' _ h0=>(by rw [upd_same] at h0;omega),⟨RW.at dd,fun _ h=>h⟩,.inl rfl,own_of,?_,hsum _ hqi _ (Nat.le_refl _)⟩
      refine Core.at hKat (C.put hsp hlt (by simp) harr' (hself _ _) own_of (fun _=>(SitsS.status (hKat _ dd C.keep) (.inl ⟨k',w.at dd,rfl,hG'⟩)).elim (·.1) (fun z=>by omega)) (by rw [e];exact .inl ⟨k',w.at dd,rfl,hG'⟩) ?_ ?_) dd
      · exact PastR.appRead C.past (hKf T _) hL own_of hr (hd T)
      · exact fun op hop b x hb hx=>C.slow i x hL.2 (hx ▸ (hr op hop b hb).2)
end
end Go.Proofs.Ytndppafplgilbaa
namespace Go.Proofs.Ytndppafplgilbaa
open Go Go.Conc
open Go.ConcN (sumTo upd sumTo_upd upd_ne upd_same)
structure Same (R R':Nat→Role):Prop where
  sits:∀ x,(R' x).sits ↔ (R x).sits
  has:∀ x c,(R' x).has c ↔ (R x).has c
  kind:∀ x,R' x=R x∨(R x=.done∧R' x=.leave)
theorem Same.refl (R:Nat→Role):Same R R:=⟨fun _=>Iff.rfl,fun _ _=>Iff.rfl,fun _=>.inl rfl⟩
theorem Same.trans {a b c:Nat→Role} (h:Same a b) (k:Same b c):Same a c:=⟨fun x=>(k.sits x).trans (h.sits x),fun x y=>(k.has x y).trans (h.has x y),fun x=>by
  rcases k.kind x with e | ⟨e1,e2⟩
  · rw [e];exact h.kind x
  · rcases h.kind x with e | ⟨e3,e4⟩
    · exact .inr ⟨e ▸ e1,e2⟩
    · rw [e1] at e4;cases e4⟩
theorem same_of {R R':Nat→Role} {i:Nat} (h:∀ x,x≠i→R' x=R x) (k:R'=R∨(R i=.done∧R' i=.leave)):Same R R':=by
  rcases k with rfl | ⟨k1,k2⟩
  · exact Same.refl _
  · refine ⟨fun x=>?_,fun x c=>?_,fun x=>?_⟩
    all_goals by_cases e:x=i
    · subst e;rw [k1,k2];exact Iff.rfl
    · rw [h x e]
    · subst e;rw [k1,k2];exact Iff.rfl
    · rw [h x e]
    · subst e;exact .inr ⟨k1,k2⟩
    · exact .inl (h x e)
def EvH (S:Nat→Loc→Prop) (Shun:Loc→Prop) (Rl:Nat→Role) (h:Nat) (e:Event):Prop :=
  (∀ b,(MemAct.ofEvent e).touch?=some b→(∀ g,g≠h→(Rl g).sits→S g b.loc→b.write=false)∧(Shun b.loc→b.kind≠.plain))∧e.loc≠.mark .disable∧e.loc≠.mark .enable
structure DH (K:World→Prop) (S:Nat→Loc→Prop) (Shun:Loc→Prop) (st:Addr) (Rl:Nat→Role) (h:Nat) (w w':World) (es:Array Event):Prop where
  keep:K w→K w'
  chans:∀ x c,x≠h→(Rl x).has c→w'.heap[c]?=w.heap[c]?
  cell:w'.cell? st=w.cell? st∧w'.frozen? st=w.frozen? st
  evs:∀ e∈es,EvH S Shun Rl h e
  size:w.heap.size≤w'.heap.size
  low:∀ e∈es,∀ b x,(MemAct.ofEvent e).touch?=some b→b.loc=.cell x→x.block < w'.heap.size
theorem EvH.same {S:Nat→Loc→Prop} {Shun:Loc→Prop} {R R':Nat→Role} {h:Nat} {e:Event} (k:Same R R') (H:EvH S Shun R h e):EvH S Shun R' h e :=
  ⟨fun b hb=>⟨fun g hg hs hS=>(H.1 b hb).1 g hg ((k.sits g).1 hs) hS,(H.1 b hb).2⟩,H.2⟩
theorem DH.same {K:World→Prop} {S:Nat→Loc→Prop} {Shun:Loc→Prop} {st:Addr} {R R':Nat→Role} {h:Nat} {w w':World} {es:Array Event} (k:Same R R') (H:DH K S Shun st R h w w' es):DH K S Shun st R' h w w' es :=
  ⟨H.keep,fun x c hx hc=>H.chans x c hx ((k.has x c).1 hc),H.cell,fun e he=>(H.evs e he).same k,H.size,H.low⟩
abbrev Hold (P:Program) (K:World→Prop) (S:Nat→Loc→Prop) (Shun:Loc→Prop) (st:Addr) (Rl:Nat→Role) (A:Nat→Bool) (h:Nat) (T:Trace) (gs:Array Goroutine) (w:World) (q:Nat→Nat):Prop :=
  Core P K S Shun st (fun t=>Knows t h) Rl A (·=h) (fun _=>False) T gs w q
section
variable {P:Program} {K:World→Prop} {S:Nat→Loc→Prop} {Shun:Loc→Prop} {st:Addr} {Rl:Nat→Role} {A:Nat→Bool} {h:Nat} {T:Trace} {gs:Array Goroutine} {w:World} {q:Nat→Nat}
theorem evH_ops {i:Nat} {fn:FuncId} {pos:String} {es:Array Event} (he:∀ e∈es,EvH S Shun Rl h e) :
    (∀ op∈MemOp.ofEvents i fn pos es,∀ b,op.act.touch?=some b→(∀ g,(¬ g=h∧(Rl g).sits)→S g b.loc→b.write=false)∧(Shun b.loc→b.kind≠.plain))∧∀ t:Trace,Deaf (t ++ MemOp.ofEvents i fn pos es) i=Deaf t i :=
  ⟨fun op hop b hb=>by obtain ⟨e,h1,rfl⟩:=Go.Conc.mem_ofEvents hop;exact ⟨fun g hg=>((he e h1).1 b hb).1 g hg.1 hg.2,((he e h1).1 b hb).2⟩,
    fun t=>by rw [Deaf_own];exact deafBehind_still (fun e h1=>⟨(he e h1).2.1,(he e h1).2.2⟩) _⟩
theorem lowOps {i:Nat} {fn:FuncId} {pos:String} {es:Array Event} {B:Nat} (h:∀ e∈es,∀ b x,(MemAct.ofEvent e).touch?=some b→b.loc=.cell x→x.block < B):∀ op∈MemOp.ofEvents i fn pos es,∀ b x,op.act.touch?=some b→b.loc=.cell x→x.block < B:=fun op hop b x hb=>by
  obtain ⟨e,he,rfl⟩:=Go.Conc.mem_ofEvents hop
  exact h e he b x hb
theorem Core.own (hstc:∀ x c,(Rl x).has c→c≠st.block) (C:Hold P K S Shun st Rl A h T gs w q) {a a':Goroutine} {w':World} {es:Array Event} (ha:gs[h]?=some a) (hd:DH K S Shun st Rl h w w' es) (hch:∀ c,(Rl h).has c→w'.heap[c]?=w.heap[c]?) :
    Hold P K S Shun st Rl A h (T ++ MemOp.ofEvents h a.frame.fn a.frame.place es) ((gs.map (woken P a a' w')).setIfInBounds h a') w' q∧((gs.map (woken P a a' w')).setIfInBounds h a')[h]?=some a':=by
  have hlt:h < gs.size:=(Array.getElem?_eq_some_iff.1 ha).1
  obtain ⟨hs,hdf⟩:=evH_ops (i:=h) (fn:=a.frame.fn) (pos:=a.frame.place) hd.evs
  have hcc:∀ x c,(Rl x).has c→w'.heap[c]?=w.heap[c]?:=fun x c hc=>by
    by_cases e:x=h
    · subst e;exact hch c hc
    · exact hd.chans x c e hc
  have hwk:∀ (x:Nat) (y:Goroutine),x≠h→gs[x]?=some y→woken P a a' w' y=y:=fun x y hx hy=>by
    unfold woken
    split
    · exact IdleR.again (hd.keep C.keep) (C.idle x y hx hy) fun c hc=>by rw [hcc x c hc];exact C.chans x c (fun h=>h) hc
    · rfl
  refine ⟨⟨fun x y hx hy=>?_,fun x c _ hc=>by rw [hcc x c hc];exact C.chans x c (fun h=>h) hc,fun _ _ hx=>hx.elim,fun _ hx=>hx.elim,C.inj,fun j hj=>?_,C.aliveD,?_,C.shun,hd.keep C.keep,fun hs=>?_,by simpa using C.few,C.low.app hd.size (lowOps hd.low),fun x y h1 h2=>Nat.lt_of_lt_of_le (C.slow x y h1 h2) hd.size,fun x hx=>C.aliveC x (by simpa using hx)⟩,Array.getElem?_setIfInBounds_self_of_lt (by simpa using hlt)⟩
  · rw [Array.getElem?_setIfInBounds_ne (fun e=>hx e.symm),Array.getElem?_map] at hy
    obtain ⟨y₀,hy₀,rfl⟩:=Option.map_eq_some_iff.1 hy
    rw [hwk x y₀ hx hy₀]
    have hi:=C.idle x y₀ hx hy₀
    cases es':Rl x with
    | seat c z ok home=>rw [es'] at hi;exact hi
    | done=>rw [es'] at hi;exact ⟨hi.1,by rw [Deaf_other T (fun z=>hx z.symm) _ own_of];exact hi.2⟩
    | leave=>rw [es'] at hi;exact ⟨hi.1,by rw [Deaf_other T (fun z=>hx z.symm) _ own_of];exact hi.2⟩
  · simp only [Array.size_setIfInBounds,Array.size_map] at hj
    rw [Deaf_other T (g':=h) (by omega) _ own_of]
    exact C.above j hj
  · exact PastR.appH C.past own_of (fun op hop b hb=>⟨fun g hg hS=>(hs op hop b hb).1 g hg hS,(hs op hop b hb).2⟩) (fun hM=>absurd rfl hM.1)
  · have e1:((gs.map (woken P a a' w')).setIfInBounds h a').size=gs.size:=by simp
    rw [e1,hd.cell.1,hd.cell.2];exact C.cell hs
theorem Core.awake (C:Hold P K S Shun st Rl A h T gs w q) {a:Goroutine} (ha:gs[h]?=some a) (hs:a.status=.running∨a.status=.blocked):∀ g∈gs,awake g:=by
  intro g hg
  obtain ⟨i,hi,rfl⟩:=Array.mem_iff_getElem.1 hg
  by_cases e:i=h
  · subst e
    have:gs[i]=a:=by simpa [Array.getElem?_eq_getElem hi] using ha
    rw [this];exact awake_of (hs.elim .inl fun x=>.inr (.inl x))
  · have hid:=C.idle i _ e (Array.getElem?_eq_getElem hi)
    cases es:Rl i with
    | seat c z ok home=>rw [es] at hid;exact awake_of ((SitsS.status C.keep hid).elim (fun x=>.inl x.1) fun x=>.inr (.inl x.1))
    | done=>rw [es] at hid;exact awake_of (.inl (Dones.status hid.2))
    | leave=>rw [es] at hid;exact awake_of (hid.2.status.elim .inl fun x=>.inr (.inr x))
end
end Go.Proofs.Ytndppafplgilbaa
