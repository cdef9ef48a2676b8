/-
  larchlaw04.BatonThins returns true for every input. No condition. (Part 11 of 49; joined by program.)
-/
import Derived.Test.YtndppafplgilbaaL10
set_option linter.unusedVariables false
set_option linter.unusedSimpArgs false
set_option linter.unusedSectionVars false
set_option maxRecDepth 100000
namespace Go.Proofs.Ytndppafplgilbaa
open Go Go.Conc
open Go.ConcN (sumTo upd sumTo_upd upd_ne upd_same)
abbrev smA (st:Addr):Addr:=⟨st.block,st.off + 1,st.spot⟩
theorem cell_set_ne {w:World} {a b:Addr} {x:Value} (h:a.block≠b.block∨a.off≠b.off):(w.setCell a x).cell? b=w.cell? b:=by
  unfold World.cell? World.setCell
  simp only [Array.getElem?_modify]
  by_cases e:a.block=b.block
  · have ho:a.off≠b.off:=h.resolve_left (fun x=>x e)
    rw [if_pos e]
    cases w.heap[b.block]? with
    | none=>rfl
    | some o =>
      by_cases h1:a.spot.isSome=true <;> by_cases h2:b.spot.isSome=true <;> cases o <;> simp [Array.getElem?_setIfInBounds,ho,h1,h2]
  · rw [if_neg e]
theorem setCell_comm {w:World} {a b:Addr} (x y:Value) (h:a.block≠b.block∨a.off≠b.off):(w.setCell a x).setCell b y=(w.setCell b y).setCell a x:=by
  have hh:((w.setCell a x).setCell b y).heap=((w.setCell b y).setCell a x).heap:=by
    apply Array.ext_getElem?
    intro k
    simp only [World.setCell,Array.getElem?_modify]
    by_cases e1:a.block=k <;> by_cases e2:b.block=k
    · have ho:a.off≠b.off:=h.resolve_left (fun x=>x (e1.trans e2.symm))
      simp only [e1,e2,if_true]
      cases w.heap[k]? with
      | none=>rfl
      | some o =>
        by_cases h1:a.spot.isSome=true <;> by_cases h2:b.spot.isSome=true <;> cases o <;> simp [h1,h2,Array.setIfInBounds_comm x y ho]
    · simp [e1,e2]
    · simp [e1,e2]
    · simp [e1,e2]
  cases w
  simp only [World.setCell] at hh ⊢
  simp_all
def AtAcq (P:Program) (main:Bool) (st:Addr) (g' g:Goroutine):Prop :=
  g.status=.running∧g.offers=none∧(∀ w,w.cell? (smA st)=some (.int .u32 0)→stepG P main g w=.go { g with status:=.blocked } w #[]) ∧
    ∀ w,w.cell? (smA st)=some (.int .u32 1)→w.frozen? (smA st)=false→stepG P main g w=.go g' (w.setCell (smA st) (.int .u32 0)) (semEvents (smA st))
def EvQ (st:Addr) (e:Event):Prop:=(∀ b,(MemAct.ofEvent e).touch?=some b→b.kind=.said∧b.loc=.cell (smA st))∧e.loc≠.mark .disable∧e.loc≠.mark .enable
def ToAcq (P:Program) (main:Bool) (st:Addr) (g':Goroutine):Nat→Goroutine→Prop
  | 0,g=>AtAcq P main st g' g
  | n + 1,g=>g.status=.running∧∃ g₁ es,(∀ e∈es,EvQ st e)∧(∀ w x,w.cell? (smA st)=some x→stepG P main g w=.go g₁ w es)∧ToAcq P main st g' n g₁
theorem ToAcq.running {P:Program} {main:Bool} {st:Addr} {g':Goroutine}:∀ {n:Nat} {g:Goroutine},ToAcq P main st g' n g→g.status=.running
  | 0,_,h=>h.1
  | _ + 1,_,h=>h.1
def MainW (P:Program) (main:Bool) (st:Addr) (g':Goroutine) (n:Nat) (g:Goroutine):Prop :=
  (n=0∧∃ g₀,g={ g₀ with status:=.blocked }∧AtAcq P main st g' g₀)∨∃ k,n=k + 1∧ToAcq P main st g' k g
inductive RoleW where
  | done
  | leave
  | last (k:Nat)
def IdleW (P:Program) (st:Addr) (T:Trace) (i n:Nat) (g:Goroutine):RoleW→Prop
  | .done=>0 < i∧Dones P st n (Deaf T i) g
  | .leave=>0 < i∧QuitsD P n (Deaf T i) g
  | .last k=>0 < i∧Lasts P st n k (Deaf T i) g
theorem Lasts.status {P:Program} {st:Addr}:∀ {n k d:Nat} {g:Goroutine},Lasts P st n k d g→g.status=.running
  | 0,_,_,_,h=>h.elim
  | _ + 1,_,_,_,h=>h.1
theorem IdleW.status {P:Program} {st:Addr} {T:Trace} {i n:Nat} {g:Goroutine} {r:RoleW} (h:IdleW P st T i n g r):g.status=.running∨g.status=.finished:=by
  cases r with
  | done=>exact .inl (Dones.status h.2)
  | leave=>exact h.2.status
  | last k=>exact .inl (Lasts.status h.2)
def Phase (h n X Y nm:Nat) (Rl:Nat→RoleW) (A:Nat→Bool):Prop :=
  (X=alive A n * 4294967296 + 1∧0 < alive A n∧Y=0∧∀ i k,Rl i≠.last k) ∨
  (∃ j k,j≠h∧j < n∧Rl j=.last k∧(∀ i k',Rl i=.last k'→i=j)∧alive A n=0∧Y=0∧X=if k≤1 then 1 else 0) ∨
  (X=0∧Y=1∧alive A n=0∧0 < nm∧∀ i k,Rl i≠.last k)
structure CoreW (P:Program) (K:World→Prop) (S:Nat→Loc→Prop) (Shun:Loc→Prop) (st:Addr) (h:Nat) (g':Goroutine) (X Y:Nat) (Rl:Nat→RoleW) (A:Nat→Bool) (nm:Nat) (T:Trace) (gs:Array Goroutine) (w:World) (q:Nat→Nat):Prop where
  idle:∀ i g,i≠h→gs[i]?=some g→IdleW P st T i (q i) g (Rl i)
  main:∃ m0,gs[h]?=some m0∧MainW P (h == 0) st g' nm m0
  above:∀ j,gs.size≤j→Deaf T j=0
  aliveA:∀ i,i≠h→i < gs.size→A i=true→Rl i=.done
  aliveB:∀ i,i≠h→i < gs.size→Rl i=.done→A i=true
  Ah:A h=false
  past:PastW Shun S (fun _=>False) (fun _=>False) h T
  keep:K w
  few:alive A gs.size < 1000
  low:LowT T w.heap.size
  phase:Phase h gs.size X Y nm Rl A
  cst:w.cell? st=some (.int .u64 X)∧w.frozen? st=false
  csm:w.cell? (smA st)=some (.int .u32 Y)∧w.frozen? (smA st)=false
  hq:q h=0
theorem upd_last {r:RoleW} {Rl:Nat→RoleW} {x i k:Nat} (hx:(fun x=>if x=i then r else Rl x) x=.last k):(x=i∧r=.last k)∨(x≠i∧Rl x=.last k):=by
  by_cases e:x=i
  · exact .inl ⟨e,by simpa [e] using hx⟩
  · exact .inr ⟨e,by simpa [e] using hx⟩
theorem alive_ex {A:Nat→Bool}:∀ {n:Nat},0 < alive A n→∃ i,i < n∧A i=true
  | 0,h=>by simp [alive] at h
  | n + 1,h=>by
    cases e:A n with
    | true=>exact ⟨n,by omega,e⟩
    | false =>
      simp only [alive,e] at h
      obtain ⟨i,h1,h2⟩:=alive_ex (n:=n) (by simpa using h)
      exact ⟨i,by omega,h2⟩
section
variable {P:Program} {Post:Value→World→Prop} {K:World→Prop} {S:Nat→Loc→Prop} {Shun:Loc→Prop} {st:Addr} {h:Nat} {g':Goroutine} {X Y nm:Nat} {Rl:Nat→RoleW} {A:Nat→Bool} {T:Trace} {gs:Array Goroutine} {w:World} {q:Nat→Nat}
theorem MainW.woken {main:Bool} {m0 a a':Goroutine} {w':World} (H:MainW P main st g' nm m0):∃ nm',MainW P main st g' nm' (woken P a a' w' m0)∧nm'≤nm + 1∧nm≤nm'∧(mayWake P a=true→(a'.status=.running∨a'.status=.finished)→0 < nm'):=by
  rcases H with ⟨rfl,g₀,rfl,hat⟩ | ⟨k,rfl,hk⟩
  · by_cases hc:(mayWake P a && a'.status != GoStatus.blocked && a'.status != GoStatus.waiting)=true
    · refine ⟨1,.inr ⟨0,rfl,?_⟩,Nat.le_refl _,Nat.zero_le _,fun _ _=>Nat.one_pos⟩
      unfold Go.Conc.woken
      rw [if_pos hc]
      have:Goroutine.again w' { g₀ with status:=.blocked }=g₀:=by
        obtain ⟨h1,h2,_⟩:=hat
        cases g₀
        simp only at h1 h2
        subst h1 h2
        rfl
      rw [this];exact hat
    · refine ⟨0,.inl ⟨rfl,g₀,?_,hat⟩,Nat.zero_le _,Nat.le_refl _,fun h1 h2=>absurd (by rcases h2 with h2 | h2 <;> simp [h1,h2]) hc⟩
      unfold Go.Conc.woken
      rw [if_neg hc]
  · refine ⟨k + 1,.inr ⟨k,rfl,?_⟩,Nat.le_succ _,Nat.le_refl _,fun _ _=>Nat.succ_pos _⟩
    have:Go.Conc.woken P a a' w' m0=m0:=by
      unfold Go.Conc.woken
      split
      · exact again_running _ (.inl hk.running)
      · rfl
    rw [this];exact hk
theorem deaf_sem (d:Nat) (a:Addr):deafBehind d (semEvents a)=d:=by
  simp [deafBehind,semEvents,deafStep,MemAct.ofEvent]
theorem past_sem {Mem Loose:Nat→Prop} {i:Nat} {a:Addr} (H:PastW Shun S Mem Loose h T) (hS:Shun (.cell a)) (hd:Deaf T i≠0) (hm:¬ Mem i) (fn:FuncId) (pos:String):PastW Shun S Mem Loose h (T ++ MemOp.ofEvents i fn pos (semEvents a)):=by
  have e:MemOp.ofEvents i fn pos (semEvents a)=(MemOp.ofEvents i fn pos #[⟨.mark .disable,false,true⟩] ++ MemOp.ofEvents i fn pos #[⟨.cell a,false,true⟩,⟨.cell a,true,true⟩]) ++ MemOp.ofEvents i fn pos #[⟨.mark .enable,false,true⟩]:=by
    simp [MemOp.ofEvents,semEvents]
  have p1:PastW Shun S Mem Loose h (T ++ MemOp.ofEvents i fn pos #[⟨.mark .disable,false,true⟩]):=PastR.appMute H (fun _=>Knows.app _) own_of (touchNone_of (by simp [MemAct.ofEvent,MemAct.touch?])) (fun hM=>absurd hM hm)
  have hd1:Deaf (T ++ MemOp.ofEvents i fn pos #[⟨.mark .disable,false,true⟩]) i≠0:=by
    rw [Deaf_own];simp [deafBehind,deafStep,MemAct.ofEvent]
  have p2:PastW Shun S Mem Loose h ((T ++ MemOp.ofEvents i fn pos #[⟨.mark .disable,false,true⟩]) ++ MemOp.ofEvents i fn pos #[⟨.cell a,false,true⟩,⟨.cell a,true,true⟩]):=PastR.appShun p1 (fun _=>Knows.app _) own_of (fun op hop b hb=>by
    obtain ⟨e,he,rfl⟩:=Go.Conc.mem_ofEvents hop
    simp only [List.mem_toArray,List.mem_cons,List.not_mem_nil,or_false] at he
    rcases he with rfl | rfl <;> (simp only [MemAct.ofEvent,MemAct.touch?,Option.some.injEq] at hb;subst hb;exact ⟨hS,rfl⟩)) (fun op hop d=>by
    obtain ⟨e,he,rfl⟩:=Go.Conc.mem_ofEvents hop
    simp only [List.mem_toArray,List.mem_cons,List.not_mem_nil,or_false] at he
    rcases he with rfl | rfl <;> rfl) hd1
  have p3:PastW Shun S Mem Loose h (((T ++ MemOp.ofEvents i fn pos #[⟨.mark .disable,false,true⟩]) ++ MemOp.ofEvents i fn pos #[⟨.cell a,false,true⟩,⟨.cell a,true,true⟩]) ++ MemOp.ofEvents i fn pos #[⟨.mark .enable,false,true⟩]):=PastR.appMute p2 (fun _=>Knows.app _) own_of (touchNone_of (by simp [MemAct.ofEvent,MemAct.touch?])) (fun hM=>absurd hM hm)
  rw [e,← Array.append_assoc,← Array.append_assoc]
  exact p3
theorem low_sem {a:Addr} {i B:Nat} (hb:a.block < B) (fn:FuncId) (pos:String):∀ op∈MemOp.ofEvents i fn pos (semEvents a),∀ b x,op.act.touch?=some b→b.loc=.cell x→x.block < B:=fun op hop b x hb' hx=>by
  obtain ⟨e,he,rfl⟩:=Go.Conc.mem_ofEvents hop
  simp only [semEvents,List.mem_toArray,List.mem_cons,List.not_mem_nil,or_false] at he
  rcases he with rfl | rfl | rfl | rfl <;> simp only [MemAct.ofEvent,MemAct.touch?,Option.some.injEq,reduceCtorEq] at hb'
  all_goals (subst hb';cases hx;exact hb)
theorem CoreW.put (C:CoreW P K S Shun st h g' X Y Rl A nm T gs w q) {i n' X' Y':Nat} {g g₁:Goroutine} {r':RoleW} {A':Nat→Bool} {es:Array Event} {w':World} (hi:gs[i]?=some g) (hne:i≠h)
    (hidle:∀ T',Deaf T' i=deafBehind (Deaf T i) es→IdleW P st T' i n' g₁ r') (hpast:PastW Shun S (fun _=>False) (fun _=>False) h (T ++ MemOp.ofEvents i g.frame.fn g.frame.place es)) (hkeep:K w') (hA:∀ x,x≠i→A' x=A x) (hAi:A' i=true ↔ r'=.done)
    (hfew:alive A' gs.size < 1000) (hlow:LowT (T ++ MemOp.ofEvents i g.frame.fn g.frame.place es) w'.heap.size) (hcst:w'.cell? st=some (.int .u64 X')∧w'.frozen? st=false) (hcsm:w'.cell? (smA st)=some (.int .u32 Y')∧w'.frozen? (smA st)=false)
    (hph:∀ nm',nm≤nm'→(mayWake P g=true→(g₁.status=.running∨g₁.status=.finished)→0 < nm')→Phase h gs.size X' Y' nm' (fun x=>if x=i then r' else Rl x) A') :
    ∃ nm',nm'≤nm + 1∧CoreW P K S Shun st h g' X' Y' (fun x=>if x=i then r' else Rl x) A' nm' (T ++ MemOp.ofEvents i g.frame.fn g.frame.place es) ((gs.map (woken P g g₁ w')).setIfInBounds i g₁) w' (upd q i n'):=by
  have hlt:i < gs.size:=(Array.getElem?_eq_some_iff.1 hi).1
  obtain ⟨m0,hm0,hM⟩:=C.main
  obtain ⟨nm',hM',hle,hge,hwake⟩:=hM.woken (a:=g) (a':=g₁) (w':=w')
  have hwk:∀ (x:Nat) (y:Goroutine),x≠h→gs[x]?=some y→woken P g g₁ w' y=y:=fun x y hx hy=>by
    unfold woken
    split
    · exact again_running _ (C.idle x y hx hy).status
    · rfl
  refine ⟨nm',hle,fun x y hx hy=>?_,⟨woken P g g₁ w' m0,?_,hM'⟩,fun j hj=>?_,fun x hx hl hAx=>?_,fun x hx hl hR=>?_,?_,hpast,hkeep,by simpa using hfew,hlow,by simpa using hph nm' hge hwake,hcst,hcsm,by rw [upd_ne _ _ (Ne.symm hne)];exact C.hq⟩
  · by_cases e:x=i
    · subst e
      rw [Array.getElem?_setIfInBounds_self_of_lt (by simpa using hlt)] at hy
      obtain rfl:=Option.some.inj hy
      rw [upd_same,if_pos rfl]
      exact hidle _ (Deaf_own ..)
    · rw [Array.getElem?_setIfInBounds_ne (fun z=>e z.symm),Array.getElem?_map] at hy
      obtain ⟨y₀,hy₀,rfl⟩:=Option.map_eq_some_iff.1 hy
      rw [hwk x y₀ hx hy₀,upd_ne _ _ e,if_neg e]
      have hid:=C.idle x y₀ hx hy₀
      have hD:Deaf (T ++ MemOp.ofEvents i g.frame.fn g.frame.place es) x=Deaf T x:=Deaf_other T (fun z=>e z.symm) _ own_of
      cases er:Rl x with
      | done=>rw [er] at hid;exact ⟨hid.1,by rw [hD];exact hid.2⟩
      | leave=>rw [er] at hid;exact ⟨hid.1,by rw [hD];exact hid.2⟩
      | last k=>rw [er] at hid;exact ⟨hid.1,by rw [hD];exact hid.2⟩
  · rw [Array.getElem?_setIfInBounds_ne hne,Array.getElem?_map,hm0];rfl
  · simp only [Array.size_setIfInBounds,Array.size_map] at hj
    rw [Deaf_other T (g':=i) (by omega) _ own_of]
    exact C.above j hj
  · by_cases e:x=i
    · subst e;rw [if_pos rfl];exact hAi.1 hAx
    · rw [if_neg e];rw [hA x e] at hAx;exact C.aliveA x hx (by simpa using hl) hAx
  · by_cases e:x=i
    · subst e;rw [if_pos rfl] at hR;exact hAi.2 hR
    · rw [if_neg e] at hR;rw [hA x e];exact C.aliveB x hx (by simpa using hl) hR
  · rw [hA h (Ne.symm hne)];exact C.Ah
theorem CoreW.mute (C:CoreW P K S Shun st h g' X Y Rl A nm T gs w q) {i n':Nat} {g g₁:Goroutine} {es:Array Event} (hi:gs[i]?=some g) (hne:i≠h)
    (hidle:∀ T',Deaf T' i=deafBehind (Deaf T i) es→IdleW P st T' i n' g₁ (Rl i)) (hes:∀ e∈es,(MemAct.ofEvent e).touch?=none) :
    ∃ nm',nm'≤nm + 1∧CoreW P K S Shun st h g' X Y Rl A nm' (T ++ MemOp.ofEvents i g.frame.fn g.frame.place es) ((gs.map (woken P g g₁ w)).setIfInBounds i g₁) w (upd q i n'):=by
  have hlt:i < gs.size:=(Array.getElem?_eq_some_iff.1 hi).1
  have e:(fun x=>if x=i then Rl i else Rl x)=Rl:=by funext x;by_cases e:x=i <;> simp [e]
  have:=C.put hi hne (g₁:=g₁) (r':=Rl i) (A':=A) (w':=w) (n':=n') (X':=X) (Y':=Y) hidle (PastR.appMute C.past (fun _=>Knows.app _) own_of (touchNone_of hes) (fun hM=>hM.elim)) C.keep (fun _ _=>rfl) ⟨fun h=>C.aliveA i hne hlt h,fun h=>C.aliveB i hne hlt h⟩ C.few (C.low.mute (touchNone_of hes)) C.cst C.csm
    (fun nm' hle _=>by
      rw [e]
      rcases C.phase with h | h | ⟨h1,h2,h3,h4,h5⟩
      · exact .inl h
      · exact .inr (.inl h)
      · exact .inr (.inr ⟨h1,h2,h3,by omega,h5⟩))
  rw [e] at this
  exact this
def wW (st:Addr) (w0:World) (X Y d:Nat):World:=((w0.setCell st (.int .u64 X)).setCell (smA st) (.int .u32 Y)).at d
theorem smA_ne (st:Addr):(smA st).block≠st.block∨(smA st).off≠st.off:=.inr (by simp)
theorem wW_st (st:Addr) (w0:World) (X Y d X':Nat):(wW st w0 X Y d).setCell st (.int .u64 X')=wW st w0 X' Y d:=by
  show (((w0.setCell st (.int .u64 X)).setCell (smA st) (.int .u32 Y)).setCell st (.int .u64 X')).at d=_
  rw [setCell_comm _ _ (smA_ne st),setCell_set];rfl
theorem wW_sm (st:Addr) (w0:World) (X Y d Y':Nat):(wW st w0 X Y d).setCell (smA st) (.int .u32 Y')=wW st w0 X Y' d:=by
  show (((w0.setCell st (.int .u64 X)).setCell (smA st) (.int .u32 Y)).setCell (smA st) (.int .u32 Y')).at d=_
  rw [setCell_set];rfl
theorem CoreW.at {w0:World} (hKat:∀ w d,K w→K (w.at d)) {d:Nat} (C:CoreW P K S Shun st h g' X Y Rl A nm T gs (wW st w0 X Y d) q) (d':Nat):CoreW P K S Shun st h g' X Y Rl A nm T gs (wW st w0 X Y d') q :=
  ⟨C.idle,C.main,C.above,C.aliveA,C.aliveB,C.Ah,C.past,hKat (wW st w0 X Y d) d' C.keep,C.few,C.low,C.phase,C.cst,C.csm,C.hq⟩
theorem CoreW.free {s:Sit} {w0:World} {d:Nat} (ok:s.Ok) (hKsm:∀ w x,s.K w→s.K (w.setCell (smA s.st) x)) (hSm:s.Shun (.cell (smA s.st))) (hsm0:w0.cell? (smA s.st)=some (.int .u32 0)) {sl:Option (Nat × Nat)} {m0:Goroutine}
    (C:CoreW P (s.KO Post) s.S s.Shun s.st h g' 0 1 Rl A nm T gs (wW s.st w0 0 1 d) q) (hal:alive A gs.size=0) (hnl:∀ i k,Rl i≠.last k) (hn:gs.size=s.n) (hd:Deaf T h=s.d) (hm0:gs[h]?=some m0)
    (hat:AtAcq P (h == 0) s.st g' m0) (hStst:s.Shun (.cell s.st)) (hAbd:∀ i,s.n≤i→A i=false)
    (H:Lh P Post { s with R0:=fun _=>.leave,A0:=fun _=>false } h g' (w0.setCell s.st (.int .u64 0))) :
    ∃ m' ops,runT P (crowd gs (wW s.st w0 0 1 d) sl) h=(.next m',ops)∧Wins P Post m' (T ++ ops):=by
  obtain ⟨hrun,_,_,hgo⟩:=hat
  have hg:=hgo _ C.csm.1 C.csm.2
  have hlt:h < gs.size:=(Array.getElem?_eq_some_iff.1 hm0).1
  have e1:(wW s.st w0 0 1 d).setCell (smA s.st) (.int .u32 0)=(w0.setCell s.st (.int .u64 0)).at d:=by
    show ((wW s.st w0 0 1 d).setCell (smA s.st) (.int .u32 (0:Nat)))=_
    rw [wW_sm]
    have:(w0.setCell s.st (.int .u64 0)).cell? (smA s.st)=some (.int .u32 0):=by rw [cell_set_ne (.inr (by simp))];exact hsm0
    show ((w0.setCell s.st (.int .u64 (0:Nat))).setCell (smA s.st) (.int .u32 (0:Nat))).at d=_
    rw [show (w0.setCell s.st (.int .u64 ((0:Nat):Int))).setCell (smA s.st) (.int .u32 ((0:Nat):Int))=(w0.setCell s.st (.int .u64 0)) from setCell_same this]
  have hKe:s.KO Post ((w0.setCell s.st (.int .u64 0)).at d):=by rw [← e1];exact ⟨hKsm _ _ C.keep.1,C.keep.2⟩
  have hAf:∀ i,A i=false:=fun i=>by
    by_cases hi:i < gs.size
    · cases e:A i with
      | false=>rfl
      | true=>have:=alive_pos e hi;omega
    · exact hAbd i (by omega)
  have hal':∀ n,alive A n=0:=fun n=>by
    induction n with
    | zero=>rfl
    | succ n ih=>simp [alive,ih,hAf n]
  have hblk:(smA s.st).block < ((w0.setCell s.st (.int .u64 0)).at d).heap.size:=by
    obtain ⟨_,_,_,h3,_⟩:=cell_some hsm0
    have:=(Array.getElem?_eq_some_iff.1 h3).1
    rw [show ((w0.setCell s.st (.int .u64 0)).at d).heap.size=w0.heap.size from setCell_size _ _ _]
    exact this
  have hsz:(wW s.st w0 0 1 d).heap.size=((w0.setCell s.st (.int .u64 0)).at d).heap.size:=by rw [← e1,setCell_size]
  refine ⟨_,_,runT_crowd_go (sl:=sl) hm0 hg,H _ _ ⟨_,sl,q,fun _=>.leave,A,_,rfl,?_,by simpa using hn,Array.getElem?_setIfInBounds_self_of_lt (by simpa using hlt),⟨fun x y hx hy=>?_,fun _ _ _ h=>h.elim,fun _ _ h=>h.elim,fun _ h=>h.elim,fun _ _ _ h=>h.elim,fun j hj=>?_,fun _ _ h=>(by cases h),?_,fun _=>hStst,?_,fun hs=>⟨?_,?_⟩,by rw [hal'];omega,?_,fun _ _ h=>h.elim,fun i _ _ h=>(by rw [hAf i] at h;cases h)⟩,Same.refl _,?_,fun x _=>hAf x,fun x hx=>(by rw [hAf x] at hx;cases hx),fun _ _=>rfl⟩⟩
  · rw [e1];exact RW.at d
  · rw [Array.getElem?_setIfInBounds_ne (fun z=>hx z.symm),Array.getElem?_map] at hy
    obtain ⟨y₀,hy₀,rfl⟩:=Option.map_eq_some_iff.1 hy
    have hid:=C.idle x y₀ hx hy₀
    have hwk:woken P m0 g' ((wW s.st w0 0 1 d).setCell (smA s.st) (.int .u32 0)) y₀=y₀:=by
      unfold woken
      split
      · exact again_running _ hid.status
      · rfl
    rw [hwk]
    have hxl:x < gs.size:=(Array.getElem?_eq_some_iff.1 hy₀).1
    have hD:Deaf (T ++ MemOp.ofEvents h m0.frame.fn m0.frame.place (semEvents (smA s.st))) x=Deaf T x:=Deaf_other T (fun z=>hx z.symm) _ own_of
    cases er:Rl x with
    | done=>have:=C.aliveB x hx hxl er;rw [hAf x] at this;cases this
    | leave=>rw [er] at hid;exact ⟨hid.1,by rw [hD];exact hid.2⟩
    | last k=>exact absurd er (hnl x k)
  · simp only [Array.size_setIfInBounds,Array.size_map] at hj
    rw [Deaf_other T (g':=h) (by omega) _ own_of]
    exact C.above j hj
  · have e:(fun g=>¬ g=h∧((fun _=>Role.leave) g:Role).sits)=fun _=>False:=by funext x;simp [Role.sits]
    show PastW s.Shun s.S (fun g=>¬ g=h∧((fun _=>Role.leave) g:Role).sits) (fun g=>¬ g=h∧((fun _=>Role.leave) g:Role).sits) h _
    rw [e]
    refine PastR.appH C.past own_of (fun op hop b hb=>?_) (fun hM=>hM.elim)
    obtain ⟨e,he,rfl⟩:=Go.Conc.mem_ofEvents hop
    simp only [semEvents,List.mem_toArray,List.mem_cons,List.not_mem_nil,or_false] at he
    rcases he with rfl | rfl | rfl | rfl <;> simp only [MemAct.ofEvent,MemAct.touch?,Option.some.injEq,reduceCtorEq] at hb
    all_goals (subst hb;exact ⟨fun _ h=>h.elim,fun _ h=>by cases h⟩)
  · rw [e1];exact hKe
  · rw [e1]
    show (w0.setCell s.st (.int .u64 0)).cell? s.st=_
    rw [hal']
    have:(wW s.st w0 0 1 d).cell? s.st=some (.int .u64 (0:Nat)):=C.cst.1
    refine Eq.trans ?_ (this.trans (by simp))
    show _=(((w0.setCell s.st (.int .u64 (0:Nat))).setCell (smA s.st) (.int .u32 (1:Nat)))).cell? s.st
    rw [cell_set_ne (smA_ne s.st)]
    rfl
  · rw [e1]
    show (w0.setCell s.st (.int .u64 0)).frozen? s.st=false
    have:=C.cst.2
    rw [show (wW s.st w0 0 1 d).frozen? s.st=((w0.setCell s.st (.int .u64 (0:Nat))).setCell (smA s.st) (.int .u32 (1:Nat))).frozen? s.st from rfl,frozen_set] at this
    exact this
  · rw [e1]
    exact LowT.app C.low (by rw [hsz];exact Nat.le_refl _) (low_sem hblk _ _)
  · rw [Deaf_own,deaf_sem];exact hd
theorem MainW.awake' {main:Bool} {m0:Goroutine} (H:MainW P main st g' nm m0):awake m0:=by
  rcases H with ⟨_,g₀,rfl,hat⟩ | ⟨k,_,hk⟩
  · exact awake_of (.inr (.inl rfl))
  · exact awake_of (.inl hk.running)
theorem said_low {i B:Nat} {fn:FuncId} {pos:String} {es:Array Event} (hes:∀ e∈es,EvQ st e) (hb:st.block < B):∀ op∈MemOp.ofEvents i fn pos es,∀ b x,op.act.touch?=some b→b.loc=.cell x→x.block < B:=fun op hop b x hb' hx=>by
  obtain ⟨e,he,rfl⟩:=Go.Conc.mem_ofEvents hop
  have:=((hes e he).1 b hb').2
  rw [this] at hx
  cases hx;exact hb
theorem wait_step {s:Sit} {w0:World} (ok:s.Ok) (hKsm:∀ w x,s.K w→s.K (w.setCell (smA s.st) x)) (hSm:s.Shun (.cell (smA s.st))) (hSt:s.Shun (.cell s.st)) (hsm0:w0.cell? (smA s.st)=some (.int .u32 0)) (hbd:∀ i,s.n≤i→s.A0 i=false)
    (H:Lh P Post { s with R0:=fun _=>.leave,A0:=fun _=>false } h g' (w0.setCell s.st (.int .u64 0))) :
    ∀ μ m t,(Wins P Post m t∨∃ gs X Y d sl q Rl A nm,m=crowd gs (wW s.st w0 X Y d) sl∧gs.size=s.n∧CoreW P (s.KO Post) s.S s.Shun s.st h g' X Y Rl A nm t gs (wW s.st w0 X Y d) q∧Deaf t h=s.d∧(∀ i,s.n≤i→A i=false)∧μ=2 * sumTo gs.size q + nm) →
      Wins P Post m t∨∃ m' ops μ',stepT P m=(.next m',ops)∧μ' < μ∧(Wins P Post m' (t ++ ops)∨∃ gs X Y d sl q Rl A nm,m'=crowd gs (wW s.st w0 X Y d) sl∧gs.size=s.n∧CoreW P (s.KO Post) s.S s.Shun s.st h g' X Y Rl A nm (t ++ ops) gs (wW s.st w0 X Y d) q∧Deaf (t ++ ops) h=s.d∧(∀ i,s.n≤i→A i=false)∧μ'=2 * sumTo gs.size q + nm):=by
  intro μ m t hI
  rcases hI with hw | ⟨gs,X,Y,d,sl,q,Rl,A,nm,rfl,hn,C,hd,hAbd,hμ⟩
  · exact .inl hw
  refine .inr ?_
  obtain ⟨m0,hm0,hM⟩:=C.main
  have haw:∀ g∈gs,awake g:=by
    intro g hg
    obtain ⟨i,hi,rfl⟩:=Array.mem_iff_getElem.1 hg
    by_cases e:i=h
    · subst e
      have:gs[i]=m0:=by simpa [Array.getElem?_eq_getElem hi] using hm0
      rw [this];exact hM.awake'
    · exact awake_of ((C.idle i _ e (Array.getElem?_eq_getElem hi)).status.elim .inl fun x=>.inr (.inr x))
  have hsome:∃ (i:Nat) (g:Goroutine),gs[i]?=some g∧g.status=.running:=by
    rcases C.phase with ⟨_,h1,_,_⟩ | ⟨j,k,h1,h2,h3,_⟩ | ⟨_,_,_,h1,_⟩
    · obtain ⟨i,hi,hAi⟩:=alive_ex h1
      have hne:i≠h:=fun e=>by subst e;rw [C.Ah] at hAi;cases hAi
      have:=C.idle i _ hne (Array.getElem?_eq_getElem hi)
      rw [C.aliveA i hne hi hAi] at this
      exact ⟨i,_,Array.getElem?_eq_getElem hi,Dones.status this.2⟩
    · have:=C.idle j _ h1 (Array.getElem?_eq_getElem h2)
      rw [h3] at this
      exact ⟨j,_,Array.getElem?_eq_getElem h2,Lasts.status this.2⟩
    · rcases hM with ⟨rfl,_⟩ | ⟨k,_,hk⟩
      · omega
      · exact ⟨h,m0,hm0,hk.running⟩
  obtain ⟨i,g,d',sl',hi,hg,hst⟩:=crowd_pick (P:=P) (w:=wW s.st w0 X Y d) (sl:=sl) haw hsome
  have Cd:=C.at ok.KatO d'
  have hst':stepT P (crowd gs (wW s.st w0 X Y d) sl)=runT P (crowd gs (wW s.st w0 X Y d') sl') i:=hst
  rw [hst']
  have hlt:i < gs.size:=(Array.getElem?_eq_some_iff.1 hi).1
  have hblk:s.st.block < (wW s.st w0 X Y d').heap.size:=by
    obtain ⟨_,_,_,h3,_⟩:=cell_some Cd.cst.1
    exact (Array.getElem?_eq_some_iff.1 h3).1
  by_cases e:i=h
  · subst e
    obtain rfl:g=m0:=by rw [hm0] at hi;exact (Option.some.inj hi).symm
    rcases hM with ⟨_,g₀,rfl,_⟩ | ⟨k,rfl,hk⟩
    · cases hg
    have hother:∀ (a':Goroutine) (w':World) (x:Nat) (y:Goroutine),x≠i→((gs.map (woken P g a' w')).setIfInBounds i a')[x]?=some y→gs[x]?=some y:=fun a' w' x y hx hy=>by
      rw [Array.getElem?_setIfInBounds_ne (fun z=>hx z.symm),Array.getElem?_map] at hy
      obtain ⟨y₀,hy₀,rfl⟩:=Option.map_eq_some_iff.1 hy
      rw [hy₀]
      congr 1
      unfold woken
      split
      · exact (again_running _ (C.idle x y₀ hx hy₀).status).symm
      · rfl
    cases k with
    | succ k =>
      obtain ⟨_,g₁,es,hes,hgo,hk'⟩:=hk
      have hD:Deaf (t ++ MemOp.ofEvents i g.frame.fn g.frame.place es) i=Deaf t i:=by rw [Deaf_own];exact deafBehind_still (fun e he=>(hes e he).2) _
      refine ⟨_,_,2 * sumTo gs.size q + (k + 1),runT_crowd_go (sl:=sl') hi (hgo _ _ Cd.csm.1),by omega,.inr ⟨_,X,Y,d',sl',q,Rl,A,k + 1,rfl,by simpa using hn,⟨fun x y hx hy=>?_,⟨g₁,Array.getElem?_setIfInBounds_self_of_lt (by simpa using hlt),.inr ⟨k,rfl,hk'⟩⟩,fun j hj=>?_,fun x hx hl=>Cd.aliveA x hx (by simpa using hl),fun x hx hl=>Cd.aliveB x hx (by simpa using hl),Cd.Ah,?_,Cd.keep,by simpa using Cd.few,Cd.low.app (Nat.le_refl _) (said_low hes hblk),?_,Cd.cst,Cd.csm,Cd.hq⟩,hD.trans hd,hAbd,by simp⟩⟩
      · have hid:=Cd.idle x y hx (hother _ _ x y hx hy)
        have hDx:Deaf (t ++ MemOp.ofEvents i g.frame.fn g.frame.place es) x=Deaf t x:=Deaf_other t (fun z=>hx z.symm) _ own_of
        cases er:Rl x with
        | done=>rw [er] at hid;exact ⟨hid.1,by rw [hDx];exact hid.2⟩
        | leave=>rw [er] at hid;exact ⟨hid.1,by rw [hDx];exact hid.2⟩
        | last k=>rw [er] at hid;exact ⟨hid.1,by rw [hDx];exact hid.2⟩
      · simp only [Array.size_setIfInBounds,Array.size_map] at hj
        rw [Deaf_other t (g':=i) (by omega) _ own_of]
        exact C.above j hj
      · refine PastR.appH Cd.past own_of (fun op hop b hb=>?_) (fun hM=>hM.elim)
        obtain ⟨e,he,rfl⟩:=Go.Conc.mem_ofEvents hop
        exact ⟨fun _ h=>h.elim,fun _ h=>by rw [((hes e he).1 b hb).1] at h;cases h⟩
      · have:=Cd.phase
        simp only [Array.size_setIfInBounds,Array.size_map]
        rcases this with h | h | ⟨h1,h2,h3,h4,h5⟩
        · exact .inl h
        · exact .inr (.inl h)
        · exact .inr (.inr ⟨h1,h2,h3,by omega,h5⟩)
    | zero =>
      have hat:AtAcq P (i == 0) s.st g' g:=hk
      by_cases hY:Y=0
      · subst hY
        have hgo:=hat.2.2.1 (wW s.st w0 X 0 d') Cd.csm.1
        refine ⟨_,_,2 * sumTo gs.size q,runT_crowd_go (sl:=sl') hi hgo,by omega,.inr ⟨_,X,0,d',sl',q,Rl,A,0,rfl,by simpa using hn,⟨fun x y hx hy=>?_,⟨_,Array.getElem?_setIfInBounds_self_of_lt (by simpa using hlt),.inl ⟨rfl,g,rfl,hat⟩⟩,fun j hj=>?_,fun x hx hl=>Cd.aliveA x hx (by simpa using hl),fun x hx hl=>Cd.aliveB x hx (by simpa using hl),Cd.Ah,?_,Cd.keep,by simpa using Cd.few,Cd.low.mute (touchNone_of (by simp)),?_,Cd.cst,Cd.csm,Cd.hq⟩,?_,hAbd,by simp⟩⟩
        · have hid:=Cd.idle x y hx (hother _ _ x y hx hy)
          have hDx:Deaf (t ++ MemOp.ofEvents i g.frame.fn g.frame.place #[]) x=Deaf t x:=Deaf_other t (fun z=>hx z.symm) _ own_of
          cases er:Rl x with
          | done=>rw [er] at hid;exact ⟨hid.1,by rw [hDx];exact hid.2⟩
          | leave=>rw [er] at hid;exact ⟨hid.1,by rw [hDx];exact hid.2⟩
          | last k=>rw [er] at hid;exact ⟨hid.1,by rw [hDx];exact hid.2⟩
        · simp only [Array.size_setIfInBounds,Array.size_map] at hj
          rw [Deaf_other t (g':=i) (by omega) _ own_of]
          exact C.above j hj
        · exact PastR.appMute Cd.past (fun _=>Knows.app _) own_of (touchNone_of (by simp)) (fun hM=>hM.elim)
        · simp only [Array.size_setIfInBounds,Array.size_map]
          rcases Cd.phase with h | h | ⟨_,h2,_⟩
          · exact .inl h
          · exact .inr (.inl h)
          · omega
        · rw [Deaf_own];exact hd
      · rcases Cd.phase with ⟨_,_,h1,_⟩ | ⟨_,_,_,_,_,_,_,h1,_⟩ | ⟨rfl,rfl,h3,_,h5⟩
        · exact absurd h1 hY
        · exact absurd h1 hY
        · obtain ⟨m',ops,hr,hw⟩:=CoreW.free (sl:=sl') ok hKsm hSm hsm0 Cd h3 h5 hn hd hi hat hSt hAbd H
          exact ⟨m',ops,0,hr,by omega,.inl hw⟩
  · have hsum:∀ k,q i=k + 1→∀ n',n'≤k→sumTo gs.size (upd q i n') + 1≤sumTo gs.size q:=by
      intro k hqi n' hn'
      have h2:sumTo gs.size (upd q i n') + (k + 1)=sumTo gs.size q + n':=by
        have:=sumTo_upd q n' id hlt
        simpa [hqi] using this
      omega
    have hi0:∀ {r:RoleW},IdleW P s.st t i (q i) g r→(i == 0)=false:=fun {r} h=>by
      have:0 < i:=by cases r <;> exact h.1
      simp;omega
    have hdx:∀ (es:Array Event),Deaf (t ++ MemOp.ofEvents i g.frame.fn g.frame.place es) h=s.d:=fun es=>(Deaf_other t e _ own_of).trans hd
    have hid:=Cd.idle i g e hi
    have hi0':=hi0 hid
    obtain ⟨r,er⟩:∃ r,Rl i=r:=⟨_,rfl⟩
    rw [er] at hid
    cases r with
    | leave =>
      obtain ⟨hpos,hq⟩:=hid
      cases hqi:q i with
      | zero=>rw [hqi] at hq;rw [hq.1] at hg;cases hg
      | succ k =>
        rw [hqi] at hq
        rcases hq with ⟨hf,_⟩ | ⟨_,g₁,es,hm,hstp,hq'⟩
        · rw [hf] at hg;cases hg
        obtain ⟨nm',hle,C'⟩:=Cd.mute (n':=k) (g₁:=g₁) hi e (fun T' hT'=>by rw [er];exact ⟨hpos,by rw [hT'];exact hq'⟩) (fun e he=>touch_mute (hm e he))
        have h1:=hsum k hqi k (Nat.le_refl _)
        exact ⟨_,_,2 * sumTo gs.size (upd q i k) + nm',runT_crowd_go (sl:=sl') hi (by rw [hi0'];exact hstp _),by omega,.inr ⟨_,X,Y,d',sl',_,Rl,A,nm',rfl,by simpa using hn,C',hdx es,hAbd,by simp⟩⟩
    | done =>
      obtain ⟨hpos,hq⟩:=hid
      cases hqi:q i with
      | zero=>rw [hqi] at hq;exact hq.elim
      | succ k =>
        rw [hqi] at hq
        have h1:=hsum k hqi k (Nat.le_refl _)
        obtain ⟨_,hq⟩:=hq
        rcases hq with ⟨g₁,es,hm,hstp,hq'⟩ | ⟨hdf,_,g'',es,hes,_,_,hstp,hq1,hq2⟩
        · obtain ⟨nm',hle,C'⟩:=Cd.mute (n':=k) (g₁:=g₁) hi e (fun T' hT'=>by rw [er];exact ⟨hpos,by rw [hT'];exact hq'⟩) hm
          exact ⟨_,_,2 * sumTo gs.size (upd q i k) + nm',runT_crowd_go (sl:=sl') hi (by rw [hi0'];exact hstp _ _ Cd.cst.1),by omega,.inr ⟨_,X,Y,d',sl',_,Rl,A,nm',rfl,by simpa using hn,C',hdx es,hAbd,by simp⟩⟩
        ·
          have hAi:=Cd.aliveB i e hlt er
          have hal:=alive_upd hAi hlt
          rcases Cd.phase with ⟨hX,_,rfl,hnl⟩ | ⟨_,_,_,_,_,_,h0,_⟩ | ⟨_,_,h0,_⟩
          · generalize hkk:alive (upd A i false) gs.size=kk at hal
            have hk1000:kk < 1000:=by have:=Cd.few;omega
            have hXk:X=(kk + 1) * 4294967296 + 1:=by rw [hX,← hal]
            have hgo:=hstp (wW s.st w0 X 0 d') kk (by rw [Cd.cst.1,hXk];simp) Cd.cst.2 hk1000
            have ew:(wW s.st w0 X 0 d').setCell s.st (.int .u64 ((kk:Nat) * 4294967296 + 1))=wW s.st w0 (kk * 4294967296 + 1) 0 d':=by
              rw [← wW_st s.st w0 X 0 d' (kk * 4294967296 + 1)]
              simp
            rw [ew] at hgo
            obtain ⟨o1,o2⟩:=evS_ops (i:=i) (fn:=g.frame.fn) (pos:=g.frame.place) hes
            have hes0:deafBehind (Deaf t i) es=Deaf t i:=by
              have:=Deaf_own t i g.frame.fn g.frame.place es
              rw [Deaf_quiet o2] at this
              exact this.symm
            have hKe:s.KO Post (wW s.st w0 (kk * 4294967296 + 1) 0 d'):=by rw [← ew];exact ok.KstO _ _ Cd.keep
            have hp:PastW s.Shun s.S (fun _=>False) (fun _=>False) h (t ++ MemOp.ofEvents i g.frame.fn g.frame.place es):=PastR.appShun Cd.past (fun _=>Knows.app _) own_of (fun op hop b hb=>by obtain ⟨h1,h2⟩:=o1 op hop b hb;exact ⟨h1 ▸ hSt,h2⟩) o2 hdf
            have hcst:(wW s.st w0 (kk * 4294967296 + 1) 0 d').cell? s.st=some (.int .u64 ((kk * 4294967296 + 1:Nat):Int))∧(wW s.st w0 (kk * 4294967296 + 1) 0 d').frozen? s.st=false:=by
              refine ⟨?_,?_⟩
              · rw [← wW_st s.st w0 X 0 d'];exact cell_set Cd.cst.1
              · rw [← wW_st s.st w0 X 0 d',frozen_set];exact Cd.cst.2
            have hcsm:(wW s.st w0 (kk * 4294967296 + 1) 0 d').cell? (smA s.st)=some (.int .u32 ((0:Nat):Int))∧(wW s.st w0 (kk * 4294967296 + 1) 0 d').frozen? (smA s.st)=false:=by
              refine ⟨?_,?_⟩
              · rw [← wW_st s.st w0 X 0 d',cell_set_ne (.inr (by simp))];exact Cd.csm.1
              · rw [← wW_st s.st w0 X 0 d',frozen_set];exact Cd.csm.2
            have hlow:LowT (t ++ MemOp.ofEvents i g.frame.fn g.frame.place es) (wW s.st w0 (kk * 4294967296 + 1) 0 d').heap.size:=by
              have ez:(wW s.st w0 (kk * 4294967296 + 1) 0 d').heap.size=(wW s.st w0 X 0 d').heap.size:=by rw [← wW_st s.st w0 X 0 d',setCell_size]
              rw [ez]
              refine Cd.low.app (Nat.le_refl _) fun op hop b x hb hx=>?_
              rw [(o1 op hop b hb).1] at hx
              cases hx;exact hblk
            have hAbd':∀ x,s.n≤x→upd A i false x=false:=fun x hx=>by rw [upd_ne _ _ (by omega)];exact hAbd x hx
            rcases Nat.eq_zero_or_pos kk with rfl | hkpos
            · obtain ⟨nm',hle,C'⟩:=Cd.put (n':=k) (g₁:=g'' 0) (r':=.last 0) (A':=upd A i false) (w':=wW s.st w0 (0 * 4294967296 + 1) 0 d') (X':=0 * 4294967296 + 1) (Y':=0) hi e (fun T' hT'=>⟨hpos,by rw [hT',hes0];exact hq2⟩) hp hKe (fun x hx=>upd_ne _ _ hx) ⟨fun h=>(by rw [upd_same] at h;cases h),fun h=>by cases h⟩ (by omega) hlow hcst hcsm
                (fun nm' _ _=>.inr (.inl ⟨i,0,e,hlt,by simp,fun x k' hx=>by
                  by_cases ex:x=i
                  · exact ex
                  · replace hx:=((upd_last hx).resolve_left (fun z=>ex z.1)).2;exact absurd hx (hnl x k'),hkk,rfl,by simp⟩))
              exact ⟨_,_,2 * sumTo gs.size (upd q i k) + nm',runT_crowd_go (sl:=sl') hi (by rw [hi0'];exact hgo),by omega,.inr ⟨_,_,0,d',sl',_,_,_,nm',rfl,by simpa using hn,C',hdx es,hAbd',by simp⟩⟩
            · obtain ⟨nm',hle,C'⟩:=Cd.put (n':=k) (g₁:=g'' kk) (r':=.leave) (A':=upd A i false) (w':=wW s.st w0 (kk * 4294967296 + 1) 0 d') (X':=kk * 4294967296 + 1) (Y':=0) hi e (fun T' hT'=>⟨hpos,by rw [hT',hes0];exact hq1 kk hk1000 hkpos⟩) hp hKe (fun x hx=>upd_ne _ _ hx) ⟨fun h=>(by rw [upd_same] at h;cases h),fun h=>by cases h⟩ (by omega) hlow hcst hcsm
                (fun nm' _ _=>.inl ⟨by rw [hkk],by omega,rfl,fun x k' hx=>by
                  by_cases ex:x=i
                  · have:=((upd_last hx).resolve_right (fun z=>z.1 ex)).2;cases this
                  · replace hx:=((upd_last hx).resolve_left (fun z=>ex z.1)).2;exact hnl x k' hx⟩)
              exact ⟨_,_,2 * sumTo gs.size (upd q i k) + nm',runT_crowd_go (sl:=sl') hi (by rw [hi0'];exact hgo),by omega,.inr ⟨_,_,0,d',sl',_,_,_,nm',rfl,by simpa using hn,C',hdx es,hAbd',by simp⟩⟩
          · have:=alive_pos hAi hlt;omega
          · have:=alive_pos hAi hlt;omega
    | last kst =>
      obtain ⟨hpos,hq⟩:=hid
      have hph:alive A gs.size=0∧Y=0∧(X=if kst≤1 then 1 else 0)∧∀ x k',Rl x=.last k'→x=i:=by
        rcases Cd.phase with ⟨_,_,_,hnl⟩ | ⟨j,k,_,_,hjk,huni,h0,hY,hX⟩ | ⟨_,_,_,_,hnl⟩
        · exact absurd er (hnl i kst)
        · have:i=j:=huni i kst er
          subst this
          rw [er] at hjk
          cases hjk
          exact ⟨h0,hY,hX,huni⟩
        · exact absurd er (hnl i kst)
      obtain ⟨h0,rfl,hX,huni⟩:=hph
      cases hqi:q i with
      | zero=>rw [hqi] at hq;exact hq.elim
      | succ k =>
        rw [hqi] at hq
        have h1:=hsum k hqi k (Nat.le_refl _)
        obtain ⟨_,hdf,hq⟩:=hq
        have hAi:A i=false:=by
          cases ea:A i with
          | false=>rfl
          | true=>have:=alive_pos ea hlt;omega
        have hput:∀ (kst' X':Nat) (g₁:Goroutine) (es:Array Event),deafBehind (Deaf t i) es=Deaf t i→Lasts P s.st k kst' (Deaf t i) g₁→(X'=if kst'≤1 then 1 else 0)→stepG P false g (wW s.st w0 X 0 d')=.go g₁ (wW s.st w0 X' 0 d') es→(∀ e∈es,∃ b,e=⟨.cell s.st,b,true⟩) →
            ∃ m' ops μ',runT P (crowd gs (wW s.st w0 X 0 d') sl') i=(.next m',ops)∧μ' < μ∧(Wins P Post m' (t ++ ops)∨∃ gs X Y d sl q Rl A nm,m'=crowd gs (wW s.st w0 X Y d) sl∧gs.size=s.n∧CoreW P (s.KO Post) s.S s.Shun s.st h g' X Y Rl A nm (t ++ ops) gs (wW s.st w0 X Y d) q∧Deaf (t ++ ops) h=s.d∧(∀ i,s.n≤i→A i=false)∧μ'=2 * sumTo gs.size q + nm):=by
          intro kst' X' g₁ es hes0 hL hX' hgo hes
          obtain ⟨o1,o2⟩:=evS_ops (i:=i) (fn:=g.frame.fn) (pos:=g.frame.place) hes
          have ew:=wW_st s.st w0 X 0 d' X'
          have hKe:s.KO Post (wW s.st w0 X' 0 d'):=by rw [← ew];exact ok.KstO _ _ Cd.keep
          obtain ⟨nm',hle,C'⟩:=Cd.put (n':=k) (g₁:=g₁) (r':=.last kst') (A':=A) (w':=wW s.st w0 X' 0 d') (X':=X') (Y':=0) hi e (fun T' hT'=>⟨hpos,by rw [hT',hes0];exact hL⟩)
            (PastR.appShun Cd.past (fun _=>Knows.app _) own_of (fun op hop b hb=>by obtain ⟨h1,h2⟩:=o1 op hop b hb;exact ⟨h1 ▸ hSt,h2⟩) o2 hdf) hKe (fun _ _=>rfl) ⟨fun h=>(by rw [hAi] at h;cases h),fun h=>by cases h⟩ Cd.few
            (by
              have ez:(wW s.st w0 X' 0 d').heap.size=(wW s.st w0 X 0 d').heap.size:=by rw [← ew,setCell_size]
              rw [ez]
              refine Cd.low.app (Nat.le_refl _) fun op hop b x hb hx=>?_
              rw [(o1 op hop b hb).1] at hx
              cases hx;exact hblk)
            ⟨by rw [← ew];exact cell_set Cd.cst.1,by rw [← ew,frozen_set];exact Cd.cst.2⟩ ⟨by rw [← ew,cell_set_ne (.inr (by simp))];exact Cd.csm.1,by rw [← ew,frozen_set];exact Cd.csm.2⟩
            (fun nm' _ _=>.inr (.inl ⟨i,kst',e,hlt,by simp,fun x k' hx=>by
              by_cases ex:x=i
              · exact ex
              · replace hx:=((upd_last hx).resolve_left (fun z=>ex z.1)).2;exact huni x k' hx,h0,rfl,hX'⟩))
          exact ⟨_,_,2 * sumTo gs.size (upd q i k) + nm',runT_crowd_go (sl:=sl') hi (by rw [hi0'];exact hgo),by omega,.inr ⟨_,_,0,d',sl',_,_,_,nm',rfl,by simpa using hn,C',hdx es,hAbd,by simp⟩⟩
        rcases hq with ⟨g₁,es,hm,hstp,_,hq'⟩ | ⟨rfl,g₁,hstp,hq'⟩ | ⟨rfl,g₁,hstp,hq'⟩ | ⟨rfl,hmw,g₁,hstp,hq'⟩
        · obtain ⟨nm',hle,C'⟩:=Cd.mute (n':=k) (g₁:=g₁) hi e (fun T' hT'=>by rw [er];exact ⟨hpos,by rw [hT'];exact hq'⟩) hm
          exact ⟨_,_,2 * sumTo gs.size (upd q i k) + nm',runT_crowd_go (sl:=sl') hi (by rw [hi0'];exact hstp _),by omega,.inr ⟨_,X,0,d',sl',_,Rl,A,nm',rfl,by simpa using hn,C',hdx es,hAbd,by simp⟩⟩
        · have hX1:X=1:=by simpa using hX
          subst hX1
          exact hput 1 1 g₁ #[⟨.cell s.st,false,true⟩] (by simp [deafBehind,deafStep,MemAct.ofEvent]) hq' rfl (hstp _ Cd.cst.1) (fun e he=>by simp at he;exact ⟨_,he⟩)
        · have hX1:X=1:=by simpa using hX
          subst hX1
          refine hput 2 0 g₁ #[⟨.cell s.st,true,true⟩] (by simp [deafBehind,deafStep,MemAct.ofEvent]) hq' rfl ((hstp _ _ Cd.cst.1 Cd.cst.2).trans ?_) (fun e he=>by simp at he;exact ⟨_,he⟩)
          rw [← wW_st s.st w0 1 0 d' 0]
          rfl
        · have hX0:X=0:=by simpa using hX
          subst hX0
          have hgo:=hstp (wW s.st w0 0 0 d') Cd.csm.1 Cd.csm.2
          have ew:=wW_sm s.st w0 0 0 d' 1
          have ew':(wW s.st w0 0 0 d').setCell (smA s.st) (.int .u32 1)=wW s.st w0 0 1 d':=ew
          rw [ew'] at hgo
          have hKe:s.KO Post (wW s.st w0 0 1 d'):=by rw [← ew];exact ⟨hKsm _ _ Cd.keep.1,Cd.keep.2⟩
          have hbm:(smA s.st).block < (wW s.st w0 0 0 d').heap.size:=hblk
          have hg1:g₁.status=.running∨g₁.status=.finished:=hq'.status
          obtain ⟨nm',hle,C'⟩:=Cd.put (n':=k) (g₁:=g₁) (r':=.leave) (A':=A) (w':=wW s.st w0 0 1 d') (X':=0) (Y':=1) hi e (fun T' hT'=>⟨hpos,by rw [hT',deaf_sem];exact hq'⟩)
            (past_sem Cd.past hSm hdf (fun h=>h) _ _) hKe (fun _ _=>rfl) ⟨fun h=>(by rw [hAi] at h;cases h),fun h=>by cases h⟩ Cd.few
            (by
              have ez:(wW s.st w0 0 1 d').heap.size=(wW s.st w0 0 0 d').heap.size:=by rw [← ew,setCell_size]
              rw [ez]
              exact Cd.low.app (Nat.le_refl _) (low_sem hbm _ _))
            ⟨by rw [← ew,cell_set_ne (smA_ne _)];exact Cd.cst.1,by rw [← ew,frozen_set];exact Cd.cst.2⟩ ⟨by rw [← ew];exact cell_set Cd.csm.1,by rw [← ew,frozen_set];exact Cd.csm.2⟩
            (fun nm' _ hw=>.inr (.inr ⟨rfl,rfl,h0,hw hmw hg1,fun x k' hx=>by
              by_cases ex:x=i
              · have:=((upd_last hx).resolve_right (fun z=>z.1 ex)).2;cases this
              · replace hx:=((upd_last hx).resolve_left (fun z=>ex z.1)).2;exact ex (huni x k' hx)⟩))
          exact ⟨_,_,2 * sumTo gs.size (upd q i k) + nm',runT_crowd_go (sl:=sl') hi (by rw [hi0'];exact hgo),by omega,.inr ⟨_,_,1,d',sl',_,_,_,nm',rfl,by simpa using hn,C',hdx _,hAbd,by simp⟩⟩
def AtCas (P:Program) (main:Bool) (st:Addr) (v:Nat) (g g₁ g₂:Goroutine):Prop :=
  g.status=.running∧∃ es es₂:Array Event,(∀ e∈es,∃ b,e=⟨.cell st,b,true⟩)∧(∀ e∈es₂,∃ b,e=⟨.cell st,b,true⟩) ∧
    ∀ w k,w.cell? st=some (.int .u64 ((k:Nat) * 4294967296))→w.frozen? st=false→k < 1000 →
      (k=v→stepG P main g w=.go g₁ (w.setCell st (.int .u64 ((k:Nat) * 4294967296 + 1))) es)∧(k≠v→stepG P main g w=.go g₂ w es₂)
theorem Lh.cas {s:Sit} {g g₁ g₂:Goroutine} {v na:Nat} (ok:s.Ok) (hl:∀ x,x≠h→s.R0 x=.done∨s.R0 x=.leave) (hspot:s.st.spot=none) (hAh:s.A0 h=false) (hbd:∀ i,s.n≤i→s.A0 i=false) (hv:0 < v)
    (hKsm:∀ w x,s.K w→s.K (w.setCell (smA s.st) x)) (hSm:s.Shun (.cell (smA s.st))) (hsm0:w.cell? (smA s.st)=some (.int .u32 0)∧w.frozen? (smA s.st)=false) (hat:AtCas P (h == 0) s.st v g g₁ g₂) (hacq:ToAcq P (h == 0) s.st g' na g₁)
    (H:Lh P Post { s with R0:=fun _=>.leave,A0:=fun _=>false } h g' (w.setCell s.st (.int .u64 0)))
    (H2:∀ w₁ k,RW s.st w w₁→w₁.cell? s.st=some (.int .u64 ((k:Nat) * 4294967296))→k≠v→k < 1000→Lh P Post s h g₂ w₁):Lh P Post s h g w:=by
  intro m T hS
  obtain ⟨hrun,es,es₂,hes,hes₂,hgo⟩:=hat
  obtain ⟨N,gs,w₁,sl₁,sl₂,T₁,q₁,R1,A1,m₁,hr,hst,_,_,rw₁,hn,ha,C,sm,hd,hA1,hA2,hR⟩:=hS.pick ok hrun
  obtain ⟨hc1,hc2⟩:=C.cell hspot
  have hlt:h < gs.size:=(Array.getElem?_eq_some_iff.1 ha).1
  generalize hkk:alive A1 (gs.size + 1)=k at hc1
  have hk1000:k < 1000:=by rw [← hkk];exact C.few
  obtain ⟨hgo1,hgo2⟩:=hgo w₁ k hc1 hc2 hk1000
  have hblk:s.st.block < w₁.heap.size:=by
    obtain ⟨_,_,_,h3,_⟩:=cell_some hc1
    exact (Array.getElem?_eq_some_iff.1 h3).1
  have evT:∀ {es:Array Event},(∀ e∈es,∃ b,e=⟨.cell s.st,b,true⟩)→∀ e∈es,∀ b,(MemAct.ofEvent e).touch?=some b→b.loc=.cell s.st∧b.kind=.atomic:=fun hes e he b hb=>by
    obtain ⟨wr,rfl⟩:=hes e he
    simp only [ofEvent_cell0,MemAct.touch?,Option.some.injEq] at hb
    subst hb;exact ⟨rfl,rfl⟩
  have hnosit:∀ x,x≠h→¬ (s.R0 x).sits:=fun x hx hs=>by rcases hl x hx with e | e <;> rw [e] at hs <;> exact hs
  have hdq:∀ {es:Array Event},(∀ e∈es,∃ b,e=⟨.cell s.st,b,true⟩)→∀ d,deafBehind d es=d:=fun hes=>deafBehind_still fun e he=>by obtain ⟨b,rfl⟩:=hes e he;exact ⟨by simp,by simp⟩
  by_cases hkv:k=v
  ·
    have hgo:=hgo1 hkv
    have hAn:A1 gs.size=false:=by rw [hn];exact (hA1 _ (.inr (.inr (Nat.le_refl _)))).trans (hbd _ (Nat.le_refl _))
    have hal:alive A1 gs.size=k:=by rw [← hkk];simp [alive,hAn]
    have hRl:∀ x,x≠h→R1 x=.done∨R1 x=.leave:=fun x hx=>by
      rcases sm.kind x with e | ⟨e,e2⟩
      · rw [e];exact hl x hx
      · exact .inr e2
    obtain ⟨d,ew⟩:∃ d,w₁.setCell s.st (.int .u64 ((k:Nat) * 4294967296 + 1))=wW s.st w (k * 4294967296 + 1) 0 d:=by
      have h0:∀ X:Nat,(w.setCell s.st (.int .u64 X)).setCell (smA s.st) (.int .u32 (0:Nat))=w.setCell s.st (.int .u64 X):=fun X=>setCell_same (by rw [cell_set_ne (.inr (by simp))];exact hsm0.1)
      rcases rw₁ with ⟨d,rfl⟩ | ⟨n,n₁,d,_,_,rfl⟩
      · refine ⟨d,?_⟩
        unfold wW
        rw [h0];rfl
      · refine ⟨d,?_⟩
        unfold wW
        rw [h0]
        show ((w.setCell s.st (.int .u64 (n₁ * 4294967296:Nat))).setCell s.st (.int .u64 ((k:Nat) * 4294967296 + 1))).at d=_
        rw [setCell_set];rfl
    have hKe:s.KO Post (wW s.st w (k * 4294967296 + 1) 0 d):=by rw [← ew];exact ok.KstO _ _ C.keep
    rw [ew] at hgo
    have hsm1:w₁.cell? (smA s.st)=some (.int .u32 0)∧w₁.frozen? (smA s.st)=false:=by
      rcases rw₁ with ⟨d,rfl⟩ | ⟨n,n₁,d,_,_,rfl⟩
      · exact hsm0
      · refine ⟨?_,?_⟩
        · show (w.setCell s.st _).cell? (smA s.st)=_
          rw [cell_set_ne (.inr (by simp))];exact hsm0.1
        · show (w.setCell s.st _).frozen? (smA s.st)=_
          rw [frozen_set];exact hsm0.2
    let Rw:Nat→RoleW:=fun x=>match R1 x with | .done=>.done | _=>.leave
    have hRwd:∀ x,Rw x=.done ↔ R1 x=.done:=fun x=>by
      show (match R1 x with | .done=>RoleW.done | _=>.leave)=.done ↔ _
      cases R1 x <;> simp
    have hRwl:∀ x k',Rw x≠.last k':=fun x k'=>by
      show (match R1 x with | .done=>RoleW.done | _=>.leave)≠_
      cases R1 x <;> simp
    have CW:CoreW P (s.KO Post) s.S s.Shun s.st h g' (k * 4294967296 + 1) 0 Rw A1 (na + 1) (T₁ ++ MemOp.ofEvents h g.frame.fn g.frame.place es) ((gs.map (woken P g g₁ (wW s.st w (k * 4294967296 + 1) 0 d))).setIfInBounds h g₁) (wW s.st w (k * 4294967296 + 1) 0 d) (upd q₁ h 0):=by
      have hesT:=evT hes
      refine ⟨fun x y hx hy=>?_,⟨g₁,Array.getElem?_setIfInBounds_self_of_lt (by simpa using hlt),.inr ⟨na,rfl,hacq⟩⟩,fun j hj=>?_,fun x hx hlx hAx=>?_,fun x hx hlx hRx=>?_,(hA1 h (.inl rfl)).trans hAh,?_,hKe,?_,?_,?_,?_,?_,upd_same ..⟩
      · rw [Array.getElem?_setIfInBounds_ne (fun z=>hx z.symm),Array.getElem?_map] at hy
        obtain ⟨y₀,hy₀,rfl⟩:=Option.map_eq_some_iff.1 hy
        have hid:=C.idle x y₀ hx hy₀
        have hDx:Deaf (T₁ ++ MemOp.ofEvents h g.frame.fn g.frame.place es) x=Deaf T₁ x:=Deaf_other T₁ (fun z=>hx z.symm) _ own_of
        have hwk:woken P g g₁ (wW s.st w (k * 4294967296 + 1) 0 d) y₀=y₀:=by
          unfold woken
          split
          · refine again_running _ ?_
            rcases hRl x hx with e | e
            · rw [e] at hid;exact .inl (Dones.status hid.2)
            · rw [e] at hid;exact hid.2.status
          · rfl
        rw [hwk,upd_ne _ _ hx]
        rcases hRl x hx with e | e
        · have er:Rw x=.done:=(hRwd x).2 e
          rw [e] at hid;rw [er];exact ⟨hid.1,by rw [hDx];exact hid.2⟩
        · have er:Rw x=.leave:=by show (match R1 x with | .done=>RoleW.done | _=>.leave)=_;rw [e]
          rw [e] at hid;rw [er];exact ⟨hid.1,by rw [hDx];exact hid.2⟩
      · simp only [Array.size_setIfInBounds,Array.size_map] at hj
        rw [Deaf_other T₁ (g':=h) (by omega) _ own_of]
        exact C.above j hj
      · have:=C.aliveC x (by simpa using hlx) hx hAx
        exact (hRwd x).2 ((hRl x hx).resolve_right this)
      · exact (C.aliveD x hx ((hRwd x).1 hRx)).1
      · have e:(fun g=>¬ g=h∧(R1 g).sits)=fun _=>False:=by
          funext x
          apply eq_false
          rintro ⟨h1,h2⟩
          rcases hRl x h1 with e | e <;> rw [e] at h2 <;> exact h2
        have hp:=C.past
        rw [e] at hp
        refine PastR.appH hp own_of (fun op hop b hb=>?_) (fun hM=>hM.elim)
        obtain ⟨e,he,rfl⟩:=Go.Conc.mem_ofEvents hop
        exact ⟨fun _ h=>h.elim,fun _ h=>by rw [(hesT e he b hb).2] at h;cases h⟩
      · simp only [Array.size_setIfInBounds,Array.size_map]
        rw [hal];exact hk1000
      · have ez:(wW s.st w (k * 4294967296 + 1) 0 d).heap.size=w₁.heap.size:=by rw [← ew,setCell_size]
        rw [ez]
        refine C.low.app (Nat.le_refl _) (lowOps fun e he b x hb hx=>?_)
        rw [(hesT e he b hb).1] at hx
        cases hx;exact hblk
      · simp only [Array.size_setIfInBounds,Array.size_map]
        exact .inl ⟨by rw [hal],by omega,rfl,hRwl⟩
      · rw [← ew];exact ⟨by rw [cell_set hc1];rfl,by rw [frozen_set];exact hc2⟩
      · rw [← ew];exact ⟨by rw [cell_set_ne (.inr (by simp))];exact hsm1.1,by rw [frozen_set];exact hsm1.2⟩
    refine Wins.back hr (Wins.step (hst.trans (runT_crowd_go ha hgo)) ?_)
    obtain ⟨N',m',t',hr',hw⟩:=runs_until (P:=P) (Done:=fun m t=>Wins P Post m t) (fun μ m t hI=>wait_step (s:=s) (w0:=w) ok hKsm hSm (C.shun hspot) hsm0.1 hbd H μ m t hI) _ _ _ (.inr ⟨_,k * 4294967296 + 1,0,d,sl₂,upd q₁ h 0,Rw,A1,na + 1,rfl,by simpa using hn,CW,(by rw [Deaf_own,hdq hes];exact hd),fun i hi=>(hA1 i (.inr (.inr hi))).trans (hbd i hi),rfl⟩)
    exact Wins.back hr' hw
  ·
    have hgo:=hgo2 hkv
    have hesT:=evT hes₂
    obtain ⟨C',ha'⟩:=Core.own' (A':=A1) (a':=g₂) (w':=w₁) (es:=es₂) C ha C.keep (fun _ _ _=>rfl) C.cell C.few (fun _ _ h=>h) (fun _ h=>h) (fun e he b hb=>⟨fun x hx hs _=>absurd ((sm.sits x).1 hs) (hnosit x hx),fun _ h=>by rw [(hesT e he b hb).2] at h;cases h⟩) (Nat.le_refl _)
      (fun e he b x hb hx=>by rw [(hesT e he b hb).1] at hx;cases hx;exact hblk)
    exact Wins.back hr (Wins.step (hst.trans (runT_crowd_go ha hgo)) (H2 w₁ k rw₁ hc1 hkv hk1000 _ _ ⟨_,_,_,R1,A1,w₁,rfl,RW.refl,by simpa using hn,ha',C',sm,by rw [Deaf_own,hdq hes₂];exact hd,hA1,hA2,hR⟩))
end
end Go.Proofs.Ytndppafplgilbaa
