/-
  larchlaw04.BatonThins returns true for every input. No condition. (Part 39 of 49; joined by program.)
-/
import Derived.Test.YtndppafplgilbaaL38
import Derived.Conc.Own2
set_option linter.unusedVariables false
set_option linter.unusedSimpArgs false
set_option linter.unusedSectionVars false
set_option maxRecDepth 100000
namespace Go.Proofs.Ytndppafplgilbaa
open Go Go.Conc
open Go.ConcN (sumTo upd sumTo_upd upd_ne upd_same)
def Gm.add (g:Gm) (k:Wk) (st:St):Gm:={ g with ws:=g.ws ++ [(k,st)] }
structure Wk.Self (k:Wk):Prop where
  s:k.blk≠k.turn∧k.blk≠k.back∧k.blk≠k.var∧k.turn≠k.back∧k.turn≠k.var∧k.back≠k.var
section
variable {g:Gm} {k:Wk} {st st':St}
theorem add_at:(g.add k st).ws[g.ws.length]?=some (k,st):=by simp [Gm.add]
theorem add_lt {j:Nat} (h:j < g.ws.length):(g.add k st).ws[j]?=g.ws[j]?:=by simp [Gm.add,List.getElem?_append_left h]
theorem add_mem {p:Wk × St}:p∈(g.add k st).ws ↔ p∈g.ws∨p=(k,st):=by simp [Gm.add]
theorem add_len:(g.add k st).ws.length=g.ws.length + 1:=by simp [Gm.add]
theorem add_some {j:Nat} {p:Wk × St} (h:(g.add k st).ws[j]?=some p):(j < g.ws.length∧g.ws[j]?=some p)∨(j=g.ws.length∧p=(k,st)):=by
  have hlt:j < (g.add k st).ws.length:=(List.getElem?_eq_some_iff.1 h).1
  rw [add_len] at hlt
  by_cases e:j=g.ws.length
  · subst e;rw [add_at] at h;exact .inr ⟨rfl,(Option.some.inj h).symm⟩
  · have hj:j < g.ws.length:=by omega
    rw [add_lt hj] at h;exact .inl ⟨hj,h⟩
theorem add_H {x:Nat}:(g.add k st).H x ↔ g.H x∨x=k.blk∨x=k.var:=by
  constructor
  · rintro (h | h | ⟨p,hp,h⟩)
    · exact .inl (.inl h)
    · exact .inl (.inr (.inl h))
    · rcases add_mem.1 hp with hp | rfl
      · exact .inl (.inr (.inr ⟨p,hp,h⟩))
      · exact .inr h
  · rintro ((h | h | ⟨p,hp,h⟩) | h)
    · exact .inl h
    · exact .inr (.inl h)
    · exact .inr (.inr ⟨p,add_mem.2 (.inl hp),h⟩)
    · exact .inr (.inr ⟨(k,st),add_mem.2 (.inr rfl),h⟩)
theorem add_chan {x:Nat}:(g.add k st).chan x ↔ g.chan x∨x=k.turn∨x=k.back:=by
  constructor
  · rintro ⟨p,hp,h⟩
    rcases add_mem.1 hp with hp | rfl
    · exact .inl ⟨p,hp,h⟩
    · exact .inr h
  · rintro (⟨p,hp,h⟩ | h)
    · exact ⟨p,add_mem.2 (.inl hp),h⟩
    · exact ⟨(k,st),add_mem.2 (.inr rfl),h⟩
theorem add_box {x:Nat}:(g.add k st).box x ↔ g.box x∨∃ home,st=.sits home x:=by
  constructor
  · rintro ⟨p,hp,home,h⟩
    rcases add_mem.1 hp with hp | rfl
    · exact .inl ⟨p,hp,home,h⟩
    · exact .inr ⟨home,h⟩
  · rintro (⟨p,hp,home,h⟩ | ⟨home,h⟩)
    · exact ⟨p,add_mem.2 (.inl hp),home,h⟩
    · exact ⟨(k,st),add_mem.2 (.inr rfl),home,h⟩
theorem add_put:(g.add k st).put g.ws.length st'=g.add k st':=by
  simp only [Gm.put,Gm.add,Gm.mk.injEq,true_and]
  apply List.ext_getElem?
  intro j
  rw [List.getElem?_modify]
  rcases Nat.lt_trichotomy j g.ws.length with h | h | h
  · have h':¬ g.ws.length=j:=by omega
    rw [List.getElem?_append_left h,List.getElem?_append_left h];simp [h']
  · subst h;simp
  · rw [List.getElem?_eq_none (by simp;omega),List.getElem?_eq_none (by simp;omega)];rfl
theorem Gm.Wf.add (W:g.Wf) (st:St) (hs:k.Self) (hf:∀ x∈k.nums,¬ g.H x∧¬ g.chan x) (hlen:g.ws.length + 1 < 200):(g.add k st).Wf:=by
  have hg:∀ x∈k.nums,x≠g.gb:=fun x hx e=>(hf x hx).1 (.inl e)
  have hq:∀ q∈g.ws,∀ x∈k.nums,x ∉ q.1.nums:=fun q hq x hx h=>by
    simp only [Wk.nums,List.mem_cons,List.not_mem_nil,or_false] at h
    rcases h with h | h | h | h
    · exact (hf x hx).1 (.inr (.inr ⟨q,hq,.inl h⟩))
    · exact (hf x hx).2 ⟨q,hq,.inl h⟩
    · exact (hf x hx).2 ⟨q,hq,.inr h⟩
    · exact (hf x hx).1 (.inr (.inr ⟨q,hq,.inr h⟩))
  refine ⟨fun p hp=>?_,fun p hp=>?_,fun i j p q hi hj hij x hx=>?_,fun x hx=>⟨(W.old x hx).1,fun p hp=>?_⟩,W.pos,by rw [add_len];exact hlen⟩
  · rcases add_mem.1 hp with hp | rfl
    · exact W.blk p hp
    · exact ⟨hg _ (by simp [Wk.nums]),hg _ (by simp [Wk.nums]),hg _ (by simp [Wk.nums]),hg _ (by simp [Wk.nums])⟩
  · rcases add_mem.1 hp with hp | rfl
    · exact W.self p hp
    · exact hs.s
  · rcases add_some hi with ⟨a1,a2⟩ | ⟨a1,rfl⟩
    · rcases add_some hj with ⟨b1,b2⟩ | ⟨b1,rfl⟩
      · exact W.other i j p q a2 b2 hij x hx
      · exact fun hx'=>hq p (Gm.at a2) x hx' hx
    · rcases add_some hj with ⟨b1,b2⟩ | ⟨b1,rfl⟩
      · exact hq q (Gm.at b2) x hx
      · omega
  · rcases add_mem.1 hp with hp | rfl
    · exact (W.old x hx).2 p hp
    · exact fun h=>(hf x h).1 (.inr (.inl hx))
end
section
variable {C:Cli} {ty pty:TypeId} {P:Program} {Post:Value→World→Prop} {gm:Gm} {Γ:C.G} {keep dead:Nat→Prop} {w:World} {i:Nat} {k:Wk}
theorem Main.hired {kd:Int} {stn ov pn:Bool} (MW:Main C ty pty P Post gm Γ keep dead w) (hs:k.Self) (O:∀ x∈k.nums,Own C gm Γ keep x) (hlen:gm.ws.length + 1 < 200) (hT:∃ n,w.heap[k.turn]?=some (.chan 0 #[] false n n false)) (hB:∃ n,w.heap[k.back]?=some (.chan 0 #[] false n n false))
    (hwk:WkAt ty k kd stn ov pn w) (hvr:w.heap[k.var]?=some (.cells #[.pointer (some (c0 k.blk 0))] pty (0,0))) (hbx:¬ gm.box k.blk∧¬ gm.box k.var):MainX C ty pty P Post (gm.add k .gone) Γ keep dead w gm.ws.length:=by
  have n1:k.blk∈k.nums:=by simp [Wk.nums]
  have n2:k.turn∈k.nums:=by simp [Wk.nums]
  have n3:k.back∈k.nums:=by simp [Wk.nums]
  have n4:k.var∈k.nums:=by simp [Wk.nums]
  refine ⟨MW.wf.add _ hs (fun x hx=>⟨(O x hx).H,(O x hx).chan⟩) hlen,fun p hp=>?_,MW.M,fun x hx=>?_,fun x hx=>?_,fun x hx=>?_,fun x hx=>?_,fun x hx=>?_,fun j p hj hp=>?_,fun p hp=>?_⟩
  · rcases add_mem.1 hp with hp | rfl
    · exact MW.K p hp
    · refine ⟨hwk.cell 0,hwk.cell 1,?_⟩
      rw [cell_of (show w.heap[(c0 k.var 0).block]?=_ from hvr) rfl];rfl
  · rcases add_H.1 hx with hx | rfl | rfl
    · exact MW.hid x hx
    · exact ⟨_,_,hwk,by simp⟩
    · exact ⟨_,_,hvr,by simp⟩
  · rcases add_H.1 hx with hx | rfl | rfl
    · exact MW.Hfoot x hx
    · exact (O _ n1).foot
    · exact (O _ n4).foot
  · rcases add_chan.1 hx with hx | rfl | rfl
    · exact MW.chfoot x hx
    · exact (O _ n2).foot
    · exact (O _ n3).foot
  · rcases add_box.1 hx with hx | ⟨_,h⟩
    · refine ⟨(MW.bxfoot x hx).1,fun h=>?_⟩
      rcases add_H.1 h with h | rfl | rfl
      · exact (MW.bxfoot x hx).2 h
      · exact hbx.1 hx
      · exact hbx.2 hx
    · cases h
  · obtain ⟨a,b,c,d⟩:=MW.kpfoot x hx
    refine ⟨a,fun h=>?_,fun h=>?_,d⟩
    · rcases add_H.1 h with h | rfl | rfl
      · exact b h
      · exact (O _ n1).kp hx
      · exact (O _ n4).kp hx
    · rcases add_chan.1 h with h | rfl | rfl
      · exact c h
      · exact (O _ n2).kp hx
      · exact (O _ n3).kp hx
  · rcases add_some hp with ⟨_,h⟩ | ⟨h,_⟩
    · exact MW.ws j p h
    · exact absurd h hj
  · rw [add_at] at hp
    cases hp
    obtain ⟨n,hT⟩:=hT
    exact ⟨hB,⟨_,n,hT⟩,fun home fb h=>by cases h⟩
def gstNew (gm:Gm) (Γ:C.G) (keep:Nat→Prop) (w:World) (home0:Goroutine→Prop):Gst C :=
  { gm:=gm,Γ:=Γ,kp:=fun x=>keep x∨gm.chan x∨gm.box x,w0:=w,home0:=home0,kd:=0,stn:=false,pn:=false,bx:=fun _=>False }
theorem MainX.mid (X:MainX C ty pty P Post gm Γ keep dead w i) (hi:gm.ws[i]?=some (k,.gone)) (hwk:WkAt ty k 0 false false false w) (home0:Goroutine→Prop):Mid C ty gm.n0 gm.gb i k (gstNew (C:=C) gm Γ keep w home0) Γ w:=by
  obtain ⟨hB,hT,_⟩:=X.chI _ hi
  refine ⟨hi,rfl,rfl,rfl,X.wf,fun x hx=>X.kplow hx,fun x hx=>?_,fun x hx=>?_,fun x hx=>?_,X.Hfoot,⟨X.M,fun x hx=>.inl hx,fun x hx=>rfl,⟨w,RW.refl,fun _ _ _=>rfl⟩,X.hid,Nat.le_refl _⟩,hwk,⟨.inr (.inl ⟨_,Gm.at hi,.inl rfl⟩),hT⟩,⟨.inr (.inl ⟨_,Gm.at hi,.inr rfl⟩),hB⟩⟩
  · rcases hx with hx | hx | hx
    · exact (X.kpfoot x hx).1
    · exact X.chfoot x hx
    · exact (X.bxfoot x hx).1
  · rcases hx with hx | hx | hx
    · exact (X.kpfoot x hx).2.1
    · exact X.wf.chanH hx
    · exact (X.bxfoot x hx).2
  · obtain ⟨c,e,h1,h2⟩:=X.hid x hx
    exact (Array.getElem?_eq_some_iff.1 h1).1
theorem Did.ofNew {home0 home1:Goroutine→Prop} {kd:Int} {Γ':C.G} {w₂:World} {gb:Nat} (hi:gm.ws[i]?=some (k,.gone)) (D:Did C gb k (gstNew (C:=C) gm Γ keep w home0) Γ' w₂):Did C gb k (gstOf (C:=C) gm i Γ keep w home1 kd) Γ' w₂:=by
  have e:gm.put i .gone=gm:=put_self hi
  refine ⟨D.M,D.grow,D.kp,?_,?_,D.size⟩
  · show ∃ w1,_∧∀ x,(gm.put i .gone).H x→_
    rw [e];exact D.hid
  · show HidOk (gm.put i .gone).H _
    rw [e];exact D.hidOk
end
section
variable {P:Program} {Post:Value→World→Prop}
theorem Lh.hireE {s:Sit} {h:Nat} {w:World} (ok:s.Ok) (hd0:s.d=0) {a a' child:Goroutine} {r':Role} {S':Loc→Prop} (hat:AtGo P (h == 0) s.S s.Shun s.R0 h a a' child) (hnew:s.R0 s.n=.leave) (hnA:s.A0 (s.n + 1)=false) (hhn:h < s.n) (B:∃ nh,Becomes P s h w a' r' S' nh)
    (H:Lh P Post { s with S:=fun g=>if g=h then S' else s.S g,R0:=upd s.R0 h r',n:=s.n + 1 } s.n child w):Lh P Post s h a w:=by
  obtain ⟨nh,B⟩:=B
  exact Lh.hire ok hd0 hat hnew hnA hhn B H
theorem atGo {main:Bool} {f:FuncId} {kd:CallKind} {a:Act} {k:List Item} {cs:List Frame} {S:Nat→Loc→Prop} {Shun:Loc→Prop} {Rl:Nat→Role} {h:Nat} (hkd:kd≠.early) {ops:Array Oper} {i:Nat} {rest:List Nat} {o:Oper} {d:Deferred} {fc:Fn} {c:Array Value} (ho:ops[i]?=some o) (hw:Region.wanted o (yielded ops a.tmps)=true)
    (hr:∀ w,(execOp a.eval o).run P w=.ok (.spawn d) w) (hd:d.target=.fn fc c) (he:∀ w,(execOp a.eval o).events P w #[]=#[]) :
    AtGo P main S Shun Rl h (G ((bk f kd).at a (.inRegion ops (i :: rest) :: k)) cs) (G ((bk f kd).at (a.put o.dst undef) (.inRegion ops rest :: k)) cs) (born P d) :=
  ⟨rfl,#[],fun e he=>by simp at he,fun w=>by
    have:=stepG_spawn (P:=P) (main:=main) (b:=bk f kd) (a:=a) (k:=k) (cs:=cs) (w:=w) (w':=w) (rest:=rest) ho hw hkd (hr w) hd
    unfold listed at this
    rw [he w,seen_none] at this
    exact this⟩
theorem l_born {main:Bool} {Gh:Type} {L:Gh→Goroutine→World→Prop} (T:Ctl P main L) {s:Gh} {w:World} {f:FuncId} {fn:Func} {c:Code} {cap args xs:Array Value} (hx:args ++ cap=xs) (hf:P.funcs[f]?=some fn) (hname:(fn.name == "runtime.NumGoroutine")=false) (hb:fn.body=some c)
    (H:L s (G (Frame.enter P f xs .deferred) [bornF P]) w):L s (born P { target:=.fn (.func f) cap,args:=args }) w:=by
  subst hx
  have h1:fn.name ≠ "runtime.NumGoroutine" := by simpa using hname
  refine T.ctl _ _ _ _ rfl (fun w₁=>?_) H
  simp [G,born,bornF,stepG,unwind,callDeferred,invoke,callFunc,hf,h1,hb,GStep.after,seen_none]
def sitA (g:Gm):Sit:={ sitG g with A0:=upd (sitG g).A0 (g.n0 + g.ws.length) true }
theorem add_S {gm:Gm} {k:Wk} {st:St} {x:Nat} (hx:x≠gm.n0 + gm.ws.length):(gm.add k st).S x=gm.S x:=by
  funext l
  apply propext
  constructor
  · rintro ⟨h,p,hp,e⟩
    rcases add_some hp with ⟨_,hp⟩ | ⟨h1,_⟩
    · exact ⟨h,p,hp,e⟩
    · exact absurd h1 (by have:gm.n0≤x:=h;show ¬ x - gm.n0=_;omega)
  · rintro ⟨h,p,hp,e⟩
    have hlt:=(List.getElem?_eq_some_iff.1 hp).1
    exact ⟨h,p,(add_lt hlt).trans hp,e⟩
theorem add_R0 {gm:Gm} {k:Wk}:(gm.add k .gone).R0=gm.R0:=by
  funext x
  unfold Gm.R0
  show (if gm.n0≤x then _ else _)=_
  split
  · rename_i hx
    rw [show (gm.add k .gone).n0=gm.n0 from rfl]
    rcases Nat.lt_trichotomy (x - gm.n0) gm.ws.length with h | h | h
    · rw [add_lt h]
    · rw [h,add_at,List.getElem?_eq_none (Nat.le_refl _)];rfl
    · rw [List.getElem?_eq_none (by rw [add_len];omega),List.getElem?_eq_none (by omega)]
  · rfl
theorem add_A0 {gm:Gm} {k:Wk} {st:St}:(gm.add k st).A0=upd gm.A0 (gm.n0 + gm.ws.length) true:=by
  funext x
  unfold Gm.A0
  rw [add_len]
  by_cases e:x=gm.n0 + gm.ws.length
  · subst e;rw [upd_same];simp [Gm.add]
  · rw [upd_ne _ _ e]
    show decide (gm.n0≤x∧x < gm.n0 + (gm.ws.length + 1))=decide (gm.n0≤x∧x < gm.n0 + gm.ws.length)
    refine decide_eq_decide.2 ⟨fun ⟨a,b⟩=>⟨a,by omega⟩,fun ⟨a,b⟩=>⟨a,by omega⟩⟩
theorem hire_on {gm:Gm} (W:gm.Wf) {k:Wk} (home0:Goroutine→Prop) {a:Goroutine} {w:World} (H:Lh P Post (sitC (gm.add k .gone) home0 k) (gm.n0 + gm.ws.length) a w) :
    Lh P Post { sitA gm with K:=(gm.add k .gone).K,S:=fun x=>if x=0 then S0 k else gm.S x,R0:=upd gm.R0 0 (.seat k.back (.bool false) false home0),n:=gm.n0 + gm.ws.length + 1 } (gm.n0 + gm.ws.length) a w:=by
  have hp:=W.pos
  refine Lh.self (S':=(sitC (gm.add k .gone) home0 k).S) (R':=(sitC (gm.add k .gone) home0 k).R0) (fun x hx=>?_) (fun x hx=>?_) ?_ ?_
  · show (if x=0 then S0 k else (gm.add k .gone).S x)=if x=0 then S0 k else gm.S x
    rw [add_S hx]
  · show upd (gm.add k .gone).R0 0 _ x=upd gm.R0 0 _ x
    rw [add_R0]
  · show upd (gm.add k .gone).R0 0 _ (gm.n0 + gm.ws.length)=.leave
    rw [upd_ne _ _ (by omega),add_R0];exact Gm.R0_out (.inr (Nat.le_refl _))
  · have e:({ sitA gm with K:=(gm.add k .gone).K,S:=(sitC (gm.add k .gone) home0 k).S,R0:=(sitC (gm.add k .gone) home0 k).R0,n:=gm.n0 + gm.ws.length + 1 }:Sit)=sitC (gm.add k .gone) home0 k:=by
      unfold sitC sitA sitG
      simp only [Sit.mk.injEq,true_and,and_true]
      exact ⟨rfl,rfl,add_A0.symm,by rw [add_len];rfl⟩
    show Lh P Post { sitA gm with K:=(gm.add k .gone).K,S:=(sitC (gm.add k .gone) home0 k).S,R0:=(sitC (gm.add k .gone) home0 k).R0,n:=gm.n0 + gm.ws.length + 1 } _ a w
    rw [e];exact H
end
end Go.Proofs.Ytndppafplgilbaa
namespace Go.Proofs.Ytndppafplgilbaa
open Go Go.Conc Go.RowKit
open Go.ConcN (sumTo upd sumTo_upd upd_ne upd_same)
section
variable {C:Cli} {Post:Value→World→Prop} {gm:Gm} {Γ:C.G} {keep dead:Nat→Prop} {w:World}
set_option maxRecDepth 100000 in
set_option maxHeartbeats 16000000 in
theorem beg_r8 {k:List Item} {cs:List Frame} {tn bq bl vr q0 q1 n nB0:Nat} {bty:TypeId} {bf:FuncId} {bfn:Func} {bcap:Array Value} {y0 y1 y2 y4 y8 y9 y10 y11 y12 y13 y14 y15 y16 y17 y18 y19 y20 y21 y22 y23 y24 y25 y26 y27 y28 y29 y30 y31 y32 y33 y34 y35 y36 y37 y38 y39 y40 y41 y42 y43 y44 y45 y46:Value} (MW:MainB C Post gm Γ keep dead w) (hs:Wk.Self ⟨bl,tn,bq,vr⟩) (Ow:∀ x∈Wk.nums ⟨bl,tn,bq,vr⟩,Own C gm Γ keep x) (hlen:gm.ws.length + 1 < 200)
    (hT:w.heap[tn]?=some (.chan 0 #[] false n n false)) (hB:w.heap[bq]?=some (.chan 0 #[] false nB0 nB0 false)) (hwk:WkAt wkT ⟨bl,tn,bq,vr⟩ 0 false false false w) (hvr:w.heap[vr]?=some (.cells #[.pointer (some (c0 bl 0))] wkP (0,0))) (hbx:¬ gm.box bl∧¬ gm.box vr) (hnd:¬ dead gm.ws.length)
    (B:∀ k,BodyOk C gm.n0 gm.gb gm.ws.length k Post (C.own gm.ws.length Γ) bf bcap) (hbf:Try.prog.funcs[bf]?=some bfn) (hbn:(bfn.name == "runtime.NumGoroutine")=false) (hbb:bfn.body.isNone=false)
    (hb0:keep q0∧w.heap[q0]?=some (.cells #[.func (.func bf) #[] bcap] bty (0,0))) (hb1:keep q1∧w.heap[q1]?=some (.cells #[.int .i64 gm.ws.length] 3 (0,0)))
    (H:∀ (st':St) (Γ':C.G) (w':World),C.next gm.ws.length Γ Γ'→(MainB C Post (gm.add ⟨bl,tn,bq,vr⟩ st') Γ' keep dead w'∧(∀ x,keep x→w'.heap[x]?=w.heap[x]?)∧(∃ wr,RW (c0 gm.gb 1) w wr∧w'.heap[gm.gb]?=wr.heap[gm.gb]?)∧w.heap.size≤w'.heap.size)→(∀ x,(gm.add ⟨bl,tn,bq,vr⟩ st').box x→gm.box x∨w.heap.size≤x)→∀ (z32 z33 z34 z35 z36 z37 z38 z39 z40 z41 z42 z43 z44:Value),LM Try.prog Post (sitG (gm.add ⟨bl,tn,bq,vr⟩ st')) (G ((bk 53 .normal).at ⟨#[y0,y1,y2,.pointer (some (c0 q0 0)),y4,.pointer (some (c0 gm.gb 0)),.pointer (some (c0 q1 0)),.pointer (some (c0 vr 0)),y8,y9,y10,y11,y12,y13,y14,y15,y16,y17,y18,y19,y20,y21,y22,y23,y24,y25,y26,y27,y28,y29,y30,y31,z32,z33,z34,z35,z36,z37,z38,z39,z40,z41,z42,z43,z44,y45,y46],[]⟩ k) cs) w') :
    LM Try.prog Post (sitA gm) (G ((bk 53 .normal).at ⟨#[y0,y1,y2,.pointer (some (c0 q0 0)),y4,.pointer (some (c0 gm.gb 0)),.pointer (some (c0 q1 0)),.pointer (some (c0 vr 0)),y8,y9,y10,y11,y12,y13,y14,y15,y16,y17,y18,y19,y20,y21,y22,y23,y24,y25,y26,y27,y28,y29,y30,y31,y32,y33,y34,y35,y36,y37,y38,y39,y40,y41,y42,y43,y44,y45,y46],[]⟩ (.code begR8 :: .code begR9 :: k)) cs) w:=by
  have O:=ownM Try.prog Post
  have T:=O.toCtl
  have hq:(Try.prog.funcs[53]?).any (·.norace)=false:=by rw [Try.func53];rfl
  have hpos:=MW.wf.pos
  have MX:=MW.hired hs Ow hlen ⟨_,hT⟩ ⟨_,hB⟩ hwk hvr hbx
  have hmem1:((⟨bl,tn,bq,vr⟩,.gone):Wk × St)∈(gm.add ⟨bl,tn,bq,vr⟩ .gone).ws:=add_mem.2 (.inr rfl)
  have hvg:vr≠gm.gb:=(MX.wf.blk _ hmem1).2.2.2
  have hbg:bl≠gm.gb:=(MX.wf.blk _ hmem1).1
  have hvs:¬ ShunOf (gm.gb :: gm.old) (.cell (c0 vr 0)):=fun h=>(Ow vr (by simp [Wk.nums])).H (shun_H h)
  have hcv:w.cell? (c0 vr 0)=some (.pointer (some (c0 bl 0))):=by
    rw [cell_of (show w.heap[(c0 vr 0).block]?=_ from hvr) rfl];rfl
  simp only [begR8,begBody,begLoop,blkOf,loopOf,seqL,seqR,Option.getD_some,Try.f53]
  refine l_draw O rfl [[],[],[1],[2],[],[0,3,4]] (by kernel_rfl) (fun listed s' a w'=>∃ (b0 b1 b2 b3 b4 b5:Bool),listed=#[b0,b1,b2,b3,b4,b5]∧s'=sitA gm∧a=⟨#[y0,y1,y2,.pointer (some (c0 q0 0)),y4,.pointer (some (c0 gm.gb 0)),.pointer (some (c0 q1 0)),.pointer (some (c0 vr 0)),y8,y9,y10,y11,y12,y13,y14,y15,y16,y17,y18,y19,y20,y21,y22,y23,y24,y25,y26,y27,y28,y29,y30,y31,(bif b0 then .pointer (some (c0 bl 0)) else y32),(bif b1 then .pointer (some (c0 gm.gb 0)) else y33),(bif b2 then .pointer (some (c0 gm.gb 0)) else y34),(bif b3 then .pointer (some ⟨gm.gb,1,none⟩) else y35),(bif b4 then .func (.func 93) #[] #[.pointer (some (c0 q0 0)),.pointer (some (c0 q1 0)),.pointer (some (c0 vr 0))] else y36),y37,y38,y39,y40,y41,y42,y43,y44,y45,y46],[]⟩∧b5=false∧((b2=true→b1=true)∧(b3=true→b2=true))∧w=w') ?init ?fin ?step
  case init=>exact ⟨false,false,false,false,false,false,rfl,rfl,rfl,rfl,⟨fun h=>(by cases h),fun h=>(by cases h)⟩,rfl⟩
  case fin =>
    rintro s' a w' ⟨b0,b1,b2,b3,b4,b5,hl,rfl,rfl,h5,hc,rfl⟩
    have hl':(#[true,true,true,true,true,true]:Array Bool)=#[b0,b1,b2,b3,b4,b5]:=hl
    simp only [Array.mk.injEq,List.cons.injEq,and_true] at hl'
    obtain ⟨rfl,rfl,rfl,rfl,rfl,rfl⟩:=hl'
    simp only [cond_true,cond_false]
    cases h5
  case step =>
    rintro listed s' a w' i rest ⟨b0,b1,b2,b3,b4,b5,hl,rfl,rfl,h5,hc,rfl⟩ hi hf hd hrs hn
    subst hl
    have hi':i < 6:=hi
    have:i=0∨i=1∨i=2∨i=3∨i=4∨i=5:=by omega
    rcases this with rfl | rfl | rfl | rfl | rfl | rfl
    · have hbf:b0=false:=hf
      subst hbf
      simp only [cond_true,cond_false]
      refine l_load O (by simp) rfl (by rfl) (p:=c0 vr 0) (x:=.pointer (some (c0 bl 0))) hcv (.inl hvg) hvs (fun w₁ hc₁=>⟨by go_simp,by simp [listed,go_sem,hc₁];exact seen_cell hq _ _ _⟩) ?_
      exact hn _ _ _ ⟨true,b1,b2,b3,b4,b5,rfl,rfl,rfl,h5,⟨by first | exact fun _=>rfl | exact hc.1,by first | exact fun _=>rfl | exact hc.2⟩,rfl⟩
    · have hbf:b1=false:=hf
      subst hbf
      simp only [cond_true,cond_false]
      refine l_val T (v:=.pointer (some (c0 gm.gb 0))) (by simp) rfl (by rfl) (fun w=>by go_simp) (fun w=>by simp [go_sem]) ?_
      exact hn _ _ _ ⟨b0,true,b2,b3,b4,b5,rfl,rfl,rfl,h5,⟨by first | exact fun _=>rfl | exact hc.1,by first | exact fun _=>rfl | exact hc.2⟩,rfl⟩
    · have hbf:b2=false:=hf
      subst hbf
      have hbt1:b1=true:=hd 1 (by simp)
      subst hbt1
      simp only [cond_true,cond_false]
      refine l_val T (v:=.pointer (some (c0 gm.gb 0))) (by simp) rfl (by rfl) (fun w=>by go_simp) (fun w=>by simp [go_sem]) ?_
      exact hn _ _ _ ⟨b0,true,true,b3,b4,b5,rfl,rfl,rfl,h5,⟨by first | exact fun _=>rfl | exact hc.1,by first | exact fun _=>rfl | exact hc.2⟩,rfl⟩
    · have hbf:b3=false:=hf
      subst hbf
      have hbt2:b2=true:=hd 2 (by simp)
      subst hbt2
      simp only [cond_true,cond_false]
      refine l_val T (v:=.pointer (some ⟨gm.gb,1,none⟩)) (by simp) rfl (by rfl) (fun w=>by go_simp) (fun w=>by simp [go_sem]) ?_
      exact hn _ _ _ ⟨b0,b1,true,true,b4,b5,rfl,rfl,rfl,h5,⟨by first | exact fun _=>rfl | exact hc.1,by first | exact fun _=>rfl | exact hc.2⟩,rfl⟩
    · have hbf:b4=false:=hf
      subst hbf
      simp only [cond_true,cond_false]
      refine l_val T (v:=.func (.func 93) #[] #[.pointer (some (c0 q0 0)),.pointer (some (c0 q1 0)),.pointer (some (c0 vr 0))]) (by simp) rfl (by rfl) (fun w=>by go_simp) (fun w=>by simp [go_sem]) ?_
      exact hn _ _ _ ⟨b0,b1,b2,b3,true,b5,rfl,rfl,rfl,h5,⟨by first | exact fun _=>rfl | exact hc.1,by first | exact fun _=>rfl | exact hc.2⟩,rfl⟩
    · have hbf:b5=false:=hf
      subst hbf
      have hbt0:b0=true:=hd 0 (by simp)
      subst hbt0
      have hbt3:b3=true:=hd 3 (by simp)
      subst hbt3
      have hbt4:b4=true:=hd 4 (by simp)
      subst hbt4
      simp only [cond_true,cond_false]
      have hb2:b2=true:=hc.2 rfl
      subst hb2
      have hb1:b1=true:=hc.1 rfl
      subst hb1
      obtain ⟨fuel,t,rfl,hf0⟩:=hrs
      have hf1:fuel=0:=by rw [← hf0];rfl
      subst hf1
      simp only [Region.linearise.go,List.reverse_nil]
      intro ok
      refine Lh.stronger (K':=(gm.add ⟨bl,tn,bq,vr⟩ .gone).K) (fun w h p hp=>h p (add_mem.2 (.inl hp))) (fun w₁ r=>?_) ?_
      · rcases r with ⟨d,rfl⟩ | ⟨n,n₁,d,h1,h2,rfl⟩
        · exact MX.K
        · exact Gm.K_set MX.wf _ _ rfl MX.K
      let home0:Goroutine→Prop:=fun g0=>∀ Γ' b st' w₂ nB,C.next gm.ws.length Γ Γ'→Did C gm.gb ⟨bl,tn,bq,vr⟩ (gstNew (C:=C) (gm.add ⟨bl,tn,bq,vr⟩ .gone) Γ keep w (fun _=>False)) Γ' w₂→w₂.heap[bq]?=some (.chan 0 #[] false nB nB false)→CameBackS C wkT wkP Try.prog Post (gm.add ⟨bl,tn,bq,vr⟩ .gone) gm.ws.length ⟨bl,tn,bq,vr⟩ Γ' false b st' w₂→(∀ hm x,st'=.sits hm x→w.heap.size≤x) →
        Lh Try.prog Post (sitG (gm.add ⟨bl,tn,bq,vr⟩ st')) 0 (Go.Conc.served g0 (.bool b)) (w₂.setChan bq 0 #[] false (nB + 1) (nB + 1) false)
      have ok2:({ sitA gm with K:=(gm.add ⟨bl,tn,bq,vr⟩ .gone).K }:Sit).Ok:=by
        refine ⟨fun w d h=>h,fun w x h=>Gm.K_set MX.wf _ _ rfl h,fun w c cap buf cl a b tm hx h=>?_,ok.stc⟩
        obtain ⟨x,hx⟩:=hx
        obtain ⟨_,p,hp,rfl,_⟩:=Gm.R0_seat (g:=gm) hx
        have hp':=(add_lt (k:=⟨bl,tn,bq,vr⟩) (st:=.gone) (List.getElem?_eq_some_iff.1 hp).1).trans hp
        exact Gm.K_chan MX.wf hp' (.inl rfl) _ _ _ _ _ _ h
      refine Lh.hireE ok2 rfl (r':=.seat bq (.bool false) false home0) (S':=S0 ⟨bl,tn,bq,vr⟩) (atGo (d:={ target:=.fn (.func 92) #[],args:=#[.pointer (some (c0 bl 0)),.pointer (some (c0 gm.gb 1)),.func (.func 93) #[] #[.pointer (some (c0 q0 0)),.pointer (some (c0 q1 0)),.pointer (some (c0 vr 0))]] }) (by simp) rfl (by rfl) (fun w=>?_) rfl (fun w=>?_)) ?_ ?_ ?_ (Becomes.ofSeat ?_ ?_ ?_ ?_) ?_
      · go_simp
      · simp [go_sem]
      · exact Gm.R0_out (g:=gm) (.inr (Nat.le_refl _))
      · show upd gm.A0 (gm.n0 + gm.ws.length) true (gm.n0 + gm.ws.length + 1)=false
        rw [upd_ne _ _ (by omega)]
        simp [Gm.A0]
      · show 0 < gm.n0 + gm.ws.length
        omega
      · rintro l (rfl | rfl)
        · exact ⟨rfl,MX.wf.noShun hmem1 1⟩
        · exact ⟨rfl,hvs⟩
      · rintro x (e | e)
        · cases e;exact (Array.getElem?_eq_some_iff.1 hwk).1
        · cases e;exact (Array.getElem?_eq_some_iff.1 hvr).1
      · refine ⟨(MX.wf.blk _ hmem1).2.2.1,fun y hy hh=>?_,_,_,hB⟩
        obtain ⟨hy1,p,hp,e,_⟩:=Gm.R0_seat (g:=gm) hh
        exact (Ow bq (by simp [Wk.nums])).chan ⟨p,Gm.at hp,.inl e⟩
      · refine WaySeat.sits (w:=w) ?_
        clear T
        have T:=waySeat_ctl (P:=Try.prog) (main:=0 == 0) (K:=(gm.add ⟨bl,tn,bq,vr⟩ .gone).K) (S:=S0 ⟨bl,tn,bq,vr⟩) (c:=bq) (z:=.bool false) (ok:=false) (home:=home0)
        walk_nrm
        simp only [cond_true]
        refine l_end T ?_
        simp only [begR9,begBody,begLoop,blkOf,loopOf,seqL,seqR,Option.getD_some,Try.f53]
        refine waySeat_draw rfl fun t=>?_
        refine l_draw_go (L:=WaySeat Try.prog (0 == 0) (gm.add ⟨bl,tn,bq,vr⟩ .gone).K (S0 ⟨bl,tn,bq,vr⟩) bq (.bool false) false home0) T [[],[],[1],[2],[3],[4],[0,1,2,3,4,5],[6,0,1,2,3,4,5],[7,5,0,1,2,3,4]] (by kernel_rfl) (fun listed s' a w'=>∃ (b0 b1 b2 b3 b4 b5 b6 b7 b8:Bool),listed=#[b0,b1,b2,b3,b4,b5,b6,b7,b8]∧a=⟨#[y0,y1,y2,.pointer (some (c0 q0 0)),y4,.pointer (some (c0 gm.gb 0)),.pointer (some (c0 q1 0)),.pointer (some (c0 vr 0)),y8,y9,y10,y11,y12,y13,y14,y15,y16,y17,y18,y19,y20,y21,y22,y23,y24,y25,y26,y27,y28,y29,y30,y31,.pointer (some (c0 bl 0)),.pointer (some (c0 gm.gb 0)),.pointer (some (c0 gm.gb 0)),.pointer (some ⟨gm.gb,1,none⟩),.func (.func 93) #[] #[.pointer (some (c0 q0 0)),.pointer (some (c0 q1 0)),.pointer (some (c0 vr 0))],(bif b0 then .pointer (some (c0 bl 0)) else y37),(bif b1 then .pointer (some (c0 bl 0)) else y38),(bif b2 then .pointer (some (c0 bl 0)) else y39),(bif b3 then .pointer (some ⟨bl,1,none⟩) else y40),(bif b4 then .chan (some bq) else y41),y42,(bif b6 then .pointer (some (c0 bl 0)) else y43),(bif b7 then .pointer (some ⟨bl,3,none⟩) else y44),y45,y46],[]⟩∧b5=false∧(b8=false∧b7=false)∧((b2=true→b1=true)∧(b3=true→b2=true)∧(b4=true→b3=true))) ?fin ?step _ _ _ _ _ _ (by simp) (by simp) ?init
        case init=>exact ⟨false,false,false,false,false,false,false,false,false,rfl,rfl,rfl,⟨rfl,rfl⟩,⟨fun h=>(by cases h),fun h=>(by cases h),fun h=>(by cases h)⟩⟩
        case fin =>
          rintro s' a w' ⟨b0,b1,b2,b3,b4,b5,b6,b7,b8,hl,rfl,h5,h8,hc⟩
          have hl':(#[true,true,true,true,true,true,true,true,true]:Array Bool)=#[b0,b1,b2,b3,b4,b5,b6,b7,b8]:=hl
          simp only [Array.mk.injEq,List.cons.injEq,and_true] at hl'
          obtain ⟨rfl,rfl,rfl,rfl,rfl,rfl,rfl,rfl,rfl⟩:=hl'
          simp only [cond_true,cond_false]
          cases h5
        case step =>
          rintro listed s' a w' i rest ⟨b0,b1,b2,b3,b4,b5,b6,b7,b8,hl,rfl,h5,h8,hc⟩ hi hf hd hrs hn
          subst hl
          have hi':i < 9:=hi
          have:i=0∨i=1∨i=2∨i=3∨i=4∨i=5∨i=6∨i=7∨i=8:=by omega
          rcases this with rfl | rfl | rfl | rfl | rfl | rfl | rfl | rfl | rfl
          · have hbf:b0=false:=hf
            subst hbf
            simp only [cond_true,cond_false]
            refine WaySeat.load (by simp) rfl (by rfl) (p:=c0 vr 0) (x:=.pointer (some (c0 bl 0))) (fun w hK=>(hK _ hmem1).2.2) (.inr rfl) (fun w₁ hc₁=>⟨by go_simp,by simp [listed,go_sem,hc₁];exact seen_cell hq _ _ _⟩) ?_
            exact hn _ _ _ ⟨true,b1,b2,b3,b4,b5,b6,b7,b8,rfl,rfl,h5,h8,⟨by first | exact fun _=>rfl | exact hc.1,by first | exact fun _=>rfl | exact hc.2.1,by first | exact fun _=>rfl | exact hc.2.2⟩⟩
          · have hbf:b1=false:=hf
            subst hbf
            simp only [cond_true,cond_false]
            refine WaySeat.load (by simp) rfl (by rfl) (p:=c0 vr 0) (x:=.pointer (some (c0 bl 0))) (fun w hK=>(hK _ hmem1).2.2) (.inr rfl) (fun w₁ hc₁=>⟨by go_simp,by simp [listed,go_sem,hc₁];exact seen_cell hq _ _ _⟩) ?_
            exact hn _ _ _ ⟨b0,true,b2,b3,b4,b5,b6,b7,b8,rfl,rfl,h5,h8,⟨by first | exact fun _=>rfl | exact hc.1,by first | exact fun _=>rfl | exact hc.2.1,by first | exact fun _=>rfl | exact hc.2.2⟩⟩
          · have hbf:b2=false:=hf
            subst hbf
            have hbt1:b1=true:=hd 1 (by simp)
            subst hbt1
            simp only [cond_true,cond_false]
            refine l_val T (v:=.pointer (some (c0 bl 0))) (by simp) rfl (by rfl) (fun w=>by go_simp) (fun w=>by simp [go_sem]) ?_
            exact hn _ _ _ ⟨b0,true,true,b3,b4,b5,b6,b7,b8,rfl,rfl,h5,h8,⟨by first | exact fun _=>rfl | exact hc.1,by first | exact fun _=>rfl | exact hc.2.1,by first | exact fun _=>rfl | exact hc.2.2⟩⟩
          · have hbf:b3=false:=hf
            subst hbf
            have hbt2:b2=true:=hd 2 (by simp)
            subst hbt2
            simp only [cond_true,cond_false]
            refine l_val T (v:=.pointer (some ⟨bl,1,none⟩)) (by simp) rfl (by rfl) (fun w=>by go_simp) (fun w=>by simp [go_sem]) ?_
            exact hn _ _ _ ⟨b0,b1,true,true,b4,b5,b6,b7,b8,rfl,rfl,h5,h8,⟨by first | exact fun _=>rfl | exact hc.1,by first | exact fun _=>rfl | exact hc.2.1,by first | exact fun _=>rfl | exact hc.2.2⟩⟩
          · have hbf:b4=false:=hf
            subst hbf
            have hbt3:b3=true:=hd 3 (by simp)
            subst hbt3
            simp only [cond_true,cond_false]
            refine WaySeat.load (by simp) rfl (by rfl) (p:=c0 bl 1) (x:=.chan (some bq)) (fun w hK=>(hK _ hmem1).2.1) (.inl rfl) (fun w₁ hc₁=>⟨by go_simp,by simp [listed,go_sem,hc₁];exact seen_cell hq _ _ _⟩) ?_
            exact hn _ _ _ ⟨b0,b1,b2,true,true,b5,b6,b7,b8,rfl,rfl,h5,h8,⟨by first | exact fun _=>rfl | exact hc.1,by first | exact fun _=>rfl | exact hc.2.1,by first | exact fun _=>rfl | exact hc.2.2⟩⟩
          · have hbf:b5=false:=hf
            subst hbf
            have hbt4:b4=true:=hd 4 (by simp)
            subst hbt4
            simp only [cond_true,cond_false]
            obtain ⟨h8,h7⟩:=h8
            subst h8
            subst h7
            have hb3:b3=true:=hc.2.2 rfl
            subst hb3
            have hb2:b2=true:=hc.2.1 rfl
            subst hb2
            have hb1:b1=true:=hc.1 rfl
            subst hb1
            refine WaySeat.here (by simp) rfl (by rfl) (fun w=>?_) (fun w=>?_) ?_
            · go_simp
              rfl
            · simp [go_sem]
            intro Γ' b st' w₂ nB nx D hB2 hst hfr
            rw [served_bk rfl]
            obtain ⟨fuel,t,rfl,hrs2⟩:=hrs
            clear T
            have T:=O.toCtl
            have hi1:(gm.add ⟨bl,tn,bq,vr⟩ st').ws[gm.ws.length]?=some (⟨bl,tn,bq,vr⟩,st'):=add_at
            have hW1:(gm.add ⟨bl,tn,bq,vr⟩ st').Wf:=MW.wf.add st' hs (fun x hx=>⟨(Ow x hx).H,(Ow x hx).chan⟩) hlen
            have hfin:=MainX.born nx MX hnd (add_at (st:=.gone)) hT (Did.ofNew (home1:=fun _=>False) (kd:=0) add_at D) hB2 hst rfl
            have hw2v:w₂.heap[vr]?=w.heap[vr]?:=by
              obtain ⟨w1,r,h⟩:=D.hid
              exact (h vr (add_H.2 (.inr (.inr rfl))) (fun e=>hs.s.2.2.1 e.symm)).trans (rw_heap r hvg)
            have hcv2:(w₂.setChan bq 0 #[] false (nB + 1) (nB + 1) false).cell? (c0 vr 0)=some (.pointer (some (c0 bl 0))):=by
              rw [cell_of (show (w₂.setChan bq 0 #[] false (nB + 1) (nB + 1) false).heap[(c0 vr 0).block]?=_ from (heap_setChan_ne w₂ _ _ _ _ _ _ hs.s.2.2.2.2.2).trans (hw2v.trans hvr)) rfl];rfl
            obtain ⟨kd',ov,pn,hk2⟩:∃ kd' ov pn,WkAt wkT ⟨bl,tn,bq,vr⟩ kd' false ov pn w₂:=by
              rcases hst with ⟨_,_,kd',_,_,h,_⟩ | ⟨_,_,_,kd',ov,h⟩
              · exact ⟨_,_,_,h⟩
              · exact ⟨_,_,_,h⟩
            have hk3:WkAt wkT ⟨bl,tn,bq,vr⟩ kd' false ov pn (w₂.setChan bq 0 #[] false (nB + 1) (nB + 1) false):=(heap_setChan_ne w₂ _ _ _ _ _ _ (fun e=>hs.s.2.1 e.symm)).trans hk2
            have hbxs:∀ x,(gm.add ⟨bl,tn,bq,vr⟩ st').box x→gm.box x∨w.heap.size≤x:=fun x hx=>by
              rcases add_box.1 hx with h | ⟨hm,h⟩
              · exact .inl h
              · exact .inr (hfr hm x h)
            refine (?_:LM Try.prog Post (sitG (gm.add ⟨bl,tn,bq,vr⟩ st')) _ _) (sitG_ok hW1)
            refine l_draw_go T [[],[],[1],[2],[3],[4],[0,1,2,3,4,5],[6,0,1,2,3,4,5],[7,5,0,1,2,3,4]] (by kernel_rfl) (fun listed s' a w'=>∃ (b0 b1 b2 b3 b4 b5 b6 b7 b8:Bool),listed=#[b0,b1,b2,b3,b4,b5,b6,b7,b8]∧s'=sitG (gm.add ⟨bl,tn,bq,vr⟩ st')∧a=⟨#[y0,y1,y2,.pointer (some (c0 q0 0)),y4,.pointer (some (c0 gm.gb 0)),.pointer (some (c0 q1 0)),.pointer (some (c0 vr 0)),y8,y9,y10,y11,y12,y13,y14,y15,y16,y17,y18,y19,y20,y21,y22,y23,y24,y25,y26,y27,y28,y29,y30,y31,.pointer (some (c0 bl 0)),.pointer (some (c0 gm.gb 0)),.pointer (some (c0 gm.gb 0)),.pointer (some ⟨gm.gb,1,none⟩),.func (.func 93) #[] #[.pointer (some (c0 q0 0)),.pointer (some (c0 q1 0)),.pointer (some (c0 vr 0))],(bif b0 then .pointer (some (c0 bl 0)) else y37),(bif b1 then .pointer (some (c0 bl 0)) else y38),(bif b2 then .pointer (some (c0 bl 0)) else y39),(bif b3 then .pointer (some ⟨bl,1,none⟩) else y40),(bif b4 then .chan (some bq) else y41),(bif b5 then .bool b else y42),(bif b6 then .pointer (some (c0 bl 0)) else y43),(bif b7 then .pointer (some ⟨bl,3,none⟩) else y44),y45,y46],[]⟩∧(b1=true∧b2=true∧b3=true∧b4=true∧b5=true∧(b8=true→b0=true∧b6=true∧b7=true)∧(b7=true→b6=true))∧w'=(bif b8 then (w₂.setChan bq 0 #[] false (nB + 1) (nB + 1) false).setCell (c0 bl 3) (.bool b) else w₂.setChan bq 0 #[] false (nB + 1) (nB + 1) false)) ?fin ?step _ _ _ _ _ _ (by simp) hrs2 ?init
            case init=>exact ⟨b0,true,true,true,true,true,b6,false,false,rfl,rfl,rfl,⟨rfl,rfl,rfl,rfl,rfl,fun h=>(by cases h),fun h=>(by cases h)⟩,rfl⟩
            case fin =>
              rintro s' a w' ⟨b0,b1,b2,b3,b4,b5,b6,b7,b8,hl,rfl,rfl,hc,hW⟩
              have hl':(#[true,true,true,true,true,true,true,true,true]:Array Bool)=#[b0,b1,b2,b3,b4,b5,b6,b7,b8]:=hl
              simp only [Array.mk.injEq,List.cons.injEq,and_true] at hl'
              obtain ⟨rfl,rfl,rfl,rfl,rfl,rfl,rfl,rfl,rfl⟩:=hl'
              simp only [cond_true,cond_false]
              subst hW
              exact H st' Γ' _ nx (by have:=hfin;rw [add_put] at this;exact this) hbxs _ _ _ _ _ _ _ _ _ _ _ _ _
            case step =>
              rintro listed s' a w' i rest ⟨b0,b1,b2,b3,b4,b5,b6,b7,b8,hl,rfl,rfl,hc,hW⟩ hi hf hd hrs hn
              subst hl
              have hi':i < 9:=hi
              have:i=0∨i=1∨i=2∨i=3∨i=4∨i=5∨i=6∨i=7∨i=8:=by omega
              rcases this with rfl | rfl | rfl | rfl | rfl | rfl | rfl | rfl | rfl
              · have hbf:b0=false:=hf
                subst hbf
                simp only [cond_true,cond_false]
                have h8:b8=false:=by
                  cases b8 with
                  | false=>rfl
                  | true=>exact absurd (hc.2.2.2.2.2.1 rfl).1 (by simp)
                subst h8
                simp only [cond_false] at hW ⊢
                subst hW
                refine l_load O (by simp) rfl (by rfl) (p:=c0 vr 0) (x:=.pointer (some (c0 bl 0))) hcv2 (.inl hvg) hvs (fun w₁ hc₁=>⟨by go_simp,by simp [listed,go_sem,hc₁];exact seen_cell hq _ _ _⟩) ?_
                exact hn _ _ _ ⟨true,b1,b2,b3,b4,b5,b6,b7,false,rfl,rfl,rfl,⟨hc.1,hc.2.1,hc.2.2.1,hc.2.2.2.1,hc.2.2.2.2.1,fun h=>(by cases h),hc.2.2.2.2.2.2⟩,rfl⟩
              · have hbf:b1=false:=hf
                subst hbf
                simp only [cond_true,cond_false]
                exact absurd hc.1 (by simp)
              · have hbf:b2=false:=hf
                subst hbf
                have hbt1:b1=true:=hd 1 (by simp)
                subst hbt1
                simp only [cond_true,cond_false]
                exact absurd hc.2.1 (by simp)
              · have hbf:b3=false:=hf
                subst hbf
                have hbt2:b2=true:=hd 2 (by simp)
                subst hbt2
                simp only [cond_true,cond_false]
                exact absurd hc.2.2.1 (by simp)
              · have hbf:b4=false:=hf
                subst hbf
                have hbt3:b3=true:=hd 3 (by simp)
                subst hbt3
                simp only [cond_true,cond_false]
                exact absurd hc.2.2.2.1 (by simp)
              · have hbf:b5=false:=hf
                subst hbf
                have hbt4:b4=true:=hd 4 (by simp)
                subst hbt4
                simp only [cond_true,cond_false]
                exact absurd hc.2.2.2.2.1 (by simp)
              · have hbf:b6=false:=hf
                subst hbf
                have hbt0:b0=true:=hd 0 (by simp)
                subst hbt0
                have hbt1:b1=true:=hd 1 (by simp)
                subst hbt1
                have hbt2:b2=true:=hd 2 (by simp)
                subst hbt2
                have hbt3:b3=true:=hd 3 (by simp)
                subst hbt3
                have hbt4:b4=true:=hd 4 (by simp)
                subst hbt4
                have hbt5:b5=true:=hd 5 (by simp)
                subst hbt5
                simp only [cond_true,cond_false]
                have h8:b8=false:=by
                  cases b8 with
                  | false=>rfl
                  | true=>exact absurd (hc.2.2.2.2.2.1 rfl).2.1 (by simp)
                subst h8
                simp only [cond_false] at hW ⊢
                subst hW
                refine l_val T (v:=.pointer (some (c0 bl 0))) (by simp) rfl (by rfl) (fun w=>by go_simp) (fun w=>by simp [go_sem]) ?_
                exact hn _ _ _ ⟨true,true,true,true,true,true,true,b7,false,rfl,rfl,rfl,⟨hc.1,hc.2.1,hc.2.2.1,hc.2.2.2.1,hc.2.2.2.2.1,fun h=>(by cases h),fun _=>rfl⟩,rfl⟩
              · have hbf:b7=false:=hf
                subst hbf
                have hbt6:b6=true:=hd 6 (by simp)
                subst hbt6
                have hbt0:b0=true:=hd 0 (by simp)
                subst hbt0
                have hbt1:b1=true:=hd 1 (by simp)
                subst hbt1
                have hbt2:b2=true:=hd 2 (by simp)
                subst hbt2
                have hbt3:b3=true:=hd 3 (by simp)
                subst hbt3
                have hbt4:b4=true:=hd 4 (by simp)
                subst hbt4
                have hbt5:b5=true:=hd 5 (by simp)
                subst hbt5
                simp only [cond_true,cond_false]
                have h8:b8=false:=by
                  cases b8 with
                  | false=>rfl
                  | true=>exact absurd (hc.2.2.2.2.2.1 rfl).2.2 (by simp)
                subst h8
                simp only [cond_false] at hW ⊢
                subst hW
                refine l_val T (v:=.pointer (some ⟨bl,3,none⟩)) (by simp) rfl (by rfl) (fun w=>by go_simp) (fun w=>by simp [go_sem]) ?_
                exact hn _ _ _ ⟨true,true,true,true,true,true,true,true,false,rfl,rfl,rfl,⟨hc.1,hc.2.1,hc.2.2.1,hc.2.2.2.1,hc.2.2.2.2.1,fun h=>(by cases h),fun _=>rfl⟩,rfl⟩
              · have hbf:b8=false:=hf
                subst hbf
                have hbt7:b7=true:=hd 7 (by simp)
                subst hbt7
                have hbt5:b5=true:=hd 5 (by simp)
                subst hbt5
                have hbt0:b0=true:=hd 0 (by simp)
                subst hbt0
                have hbt1:b1=true:=hd 1 (by simp)
                subst hbt1
                have hbt2:b2=true:=hd 2 (by simp)
                subst hbt2
                have hbt3:b3=true:=hd 3 (by simp)
                subst hbt3
                have hbt4:b4=true:=hd 4 (by simp)
                subst hbt4
                simp only [cond_true,cond_false]
                have h6:b6=true:=hc.2.2.2.2.2.2 rfl
                subst h6
                simp only [cond_false] at hW
                subst hW
                refine l_store O (by simp) rfl (by rfl) (p:=c0 bl 3) (x:=.bool false) (y:=.bool b) (hk3.cell 3) (hk3.frozen 3) (.inl hbg) (hW1.noShun (Gm.at hi1) 3) (fun g _ _ hS=>?_) (fun w h=>Gm.K_own hW1 hi1 (by omega) h) (fun g c h=>?_) (fun w₁ hc₁ hf₁=>⟨?_,?_⟩) ?_
                · obtain ⟨_,p,_,h⟩:=hS
                  injection h with h;injection h with h1 h2;omega
                · obtain ⟨_,p,hp,rfl,_⟩:=Gm.R0_seat h
                  exact (hW1.chanK hp (.inl rfl) (Gm.at hi1)).1
                · go_simp
                · simp [listed,go_sem,hc₁,hf₁]
                  rw [events_store Try.prog w₁ #[] _ (.bool b) .plain rfl]
                  simp only [show w₁.cell? ⟨bl,3,none⟩=some (.bool false) from hc₁,show w₁.frozen? ⟨bl,3,none⟩=false from hf₁]
                  exact seen_cell hq _ _ _
                exact hn _ _ _ ⟨true,true,true,true,true,true,true,true,true,rfl,rfl,rfl,⟨hc.1,hc.2.1,hc.2.2.1,hc.2.2.2.1,hc.2.2.2.2.1,fun _=>⟨rfl,rfl,rfl⟩,fun _=>rfl⟩,rfl⟩
          · have hbf:b6=false:=hf
            subst hbf
            have hbt0:b0=true:=hd 0 (by simp)
            subst hbt0
            have hbt1:b1=true:=hd 1 (by simp)
            subst hbt1
            have hbt2:b2=true:=hd 2 (by simp)
            subst hbt2
            have hbt3:b3=true:=hd 3 (by simp)
            subst hbt3
            have hbt4:b4=true:=hd 4 (by simp)
            subst hbt4
            have hbt5:b5=true:=hd 5 (by simp)
            subst hbt5
            simp only [cond_true,cond_false]
            exact absurd h5 (by simp)
          · have hbf:b7=false:=hf
            subst hbf
            have hbt6:b6=true:=hd 6 (by simp)
            subst hbt6
            have hbt0:b0=true:=hd 0 (by simp)
            subst hbt0
            have hbt1:b1=true:=hd 1 (by simp)
            subst hbt1
            have hbt2:b2=true:=hd 2 (by simp)
            subst hbt2
            have hbt3:b3=true:=hd 3 (by simp)
            subst hbt3
            have hbt4:b4=true:=hd 4 (by simp)
            subst hbt4
            have hbt5:b5=true:=hd 5 (by simp)
            subst hbt5
            simp only [cond_true,cond_false]
            exact absurd h5 (by simp)
          · have hbf:b8=false:=hf
            subst hbf
            have hbt7:b7=true:=hd 7 (by simp)
            subst hbt7
            have hbt5:b5=true:=hd 5 (by simp)
            subst hbt5
            have hbt0:b0=true:=hd 0 (by simp)
            subst hbt0
            have hbt1:b1=true:=hd 1 (by simp)
            subst hbt1
            have hbt2:b2=true:=hd 2 (by simp)
            subst hbt2
            have hbt3:b3=true:=hd 3 (by simp)
            subst hbt3
            have hbt4:b4=true:=hd 4 (by simp)
            subst hbt4
            simp only [cond_true,cond_false]
            exact absurd h5 (by simp)
      · refine hire_on MW.wf home0 ?_
        have K1:KontC C wkT wkP gm.gb gm.ws.length ⟨bl,tn,bq,vr⟩ Try.prog Post (HomeC C gm.n0 gm.gb gm.ws.length ⟨bl,tn,bq,vr⟩ Post) (gstNew (C:=C) (gm.add ⟨bl,tn,bq,vr⟩ .gone) Γ keep w home0):=by
          refine ⟨fun Γ' fb' kind w₂ nB h0 h1 D h3 h4 h5 h6 h7 h8 g0 hg0=>?_,fun Γ' kd' ov w₂ nB h0 h1 D h3 h4 g0 hg0=>?_,_,hT⟩
          · have:=hg0 Γ' true (.sits (Home C wkT wkP gm.n0 gm.gb gm.ws.length ⟨bl,tn,bq,vr⟩ Try.prog Post fb' (C.own gm.ws.length Γ')) fb') w₂ nB h0 ⟨D.M,D.grow,D.kp,D.hid,D.hidOk,D.size⟩ h7 (.inl ⟨rfl,fb',kind,rfl,h1,h3,h4,h5,h6⟩) (fun hm x e=>by cases e;exact h8.elim id False.elim)
            show Lh Try.prog Post (sitG ((gm.add ⟨bl,tn,bq,vr⟩ .gone).put gm.ws.length _)) 0 _ _
            rw [add_put];exact this
          · have:=hg0 Γ' false .done w₂ nB h0 ⟨D.M,D.grow,D.kp,D.hid,D.hidOk,D.size⟩ h4 (.inr ⟨rfl,rfl,h1,kd',ov,h3⟩) (fun hm x e=>by cases e)
            show Lh Try.prog Post (sitG ((gm.add ⟨bl,tn,bq,vr⟩ .gone).put gm.ws.length _)) 0 _ _
            rw [add_put];exact this
        exact l_born (ownK C gm.n0 gm.ws.length ⟨bl,tn,bq,vr⟩ Try.prog Post _).toCtl (by simp [Gm.add]) Try.func92 (by kernel_rfl) rfl (foot_start (MainX.mid MX add_at hwk home0) rfl rfl (B _) hbf hbn hbb ⟨.inl hb0.1,hb0.2⟩ ⟨.inl hb1.1,hb1.2⟩ hcv) (sitC_ok MX.wf add_at home0) K1
end
end Go.Proofs.Ytndppafplgilbaa
namespace Go.Proofs.Ytndppafplgilbaa
open Go Go.Conc Go.RowKit
open Go.ConcN (sumTo upd sumTo_upd upd_ne upd_same)
theorem alive_gm (g:Gm):∀ n,alive g.A0 n≤g.ws.length∧alive g.A0 n≤n - g.n0
  | 0=>⟨Nat.zero_le _,Nat.zero_le _⟩
  | n + 1=>by
    obtain ⟨h1,h2⟩:=alive_gm g n
    unfold alive
    by_cases e:g.A0 n=true
    · rw [if_pos e]
      simp only [Gm.A0,decide_eq_true_eq] at e
      omega
    · rw [if_neg e];omega
def Cli.Upto (C:Cli) (Γ0:C.G):Nat→C.G→Prop
  | 0,Γ=>Γ=Γ0
  | i + 1,Γ'=>∃ Γ,C.Upto Γ0 i Γ∧C.next i Γ Γ'
section
variable {gb i:Nat} {w wr w':World}
theorem cnt_rw (h:∃ N:Nat,N≤i∧w.cell? (c0 gb 1)=some (.int .u64 (N * 4294967296:Nat))) (r:RW (c0 gb 1) w wr) (he:w'.heap[gb]?=wr.heap[gb]?):∃ N:Nat,N≤i∧w'.cell? (c0 gb 1)=some (.int .u64 (N * 4294967296:Nat)):=by
  obtain ⟨N,hN,h⟩:=h
  have e0:w'.cell? (c0 gb 1)=wr.cell? (c0 gb 1):=by
    unfold World.cell?
    rw [show (c0 gb 1).block=gb from rfl,he]
  rcases r with ⟨d,rfl⟩ | ⟨n,n₁,d,h1,h2,rfl⟩
  · exact ⟨N,hN,e0.trans h⟩
  · rw [h] at h1
    injection h1 with h1
    injection h1 with _ h1
    exact ⟨n₁,by omega,e0.trans (cell_set h)⟩
theorem cnt_grow {H row:Nat→Prop} (h:∃ N:Nat,N≤i∧w.cell? (c0 gb 1)=some (.int .u64 (N * 4294967296:Nat))) (G:Grow (c0 gb 1) H row w w') (hH:H gb):∃ N:Nat,N≤i∧w'.cell? (c0 gb 1)=some (.int .u64 (N * 4294967296:Nat)):=by
  obtain ⟨wr,r,h2⟩:=G.hid
  exact cnt_rw h r (h2 gb hH)
end
section
variable {C:Cli} {ty pty:TypeId} {P:Program} {Post:Value→World→Prop} {gm:Gm} {Γ:C.G} {keep dead:Nat→Prop} {w w':World}
theorem Main.gbset (MW:Main C ty pty P Post gm Γ keep dead w) (h:∀ x,x≠gm.gb→w'.heap[x]?=w.heap[x]?) (hg:∃ c e,w'.heap[gm.gb]?=some (.cells c e (0,0))∧0 < c.size) (hs:w.heap.size≤w'.heap.size):Main C ty pty P Post gm Γ keep dead w':=by
  have hgH:gm.H gm.gb:=.inl rfl
  refine MW.own (fun x _ hx=>h x hx) (fun x hx=>?_) (fun x hx=>h x fun e=>MW.Hfoot _ hgH (e ▸ hx)) (fun x hx=>h x fun e=>?_) hs
  · by_cases e:x=gm.gb
    · subst e;exact hg
    · obtain ⟨c,e',a,b⟩:=MW.hid x hx
      exact ⟨c,e',(h x e).trans a,b⟩
  · subst e
    rcases hx with hx | hx
    · exact MW.wf.chanH hx hgH
    · exact (MW.bxfoot _ hx).2 hgH
end
structure BodyF (bf:FuncId) (bfn:Func):Prop where
  f:Try.prog.funcs[bf]?=some bfn
  n:(bfn.name == "runtime.NumGoroutine")=false
  b:bfn.body.isNone=false
structure BegJ (C:Cli) (Post:Value→World→Prop) (Γ0:C.G) (keep:Nat→Prop) (w0:World) (old:List Nat) (gb n0 q0:Nat) (bf:FuncId) (bcap:Array Value) (bty:TypeId) (i:Nat) (Γ:C.G) (ws:List (Wk × St)) (rv:Value) (w:World):Prop where
  up:C.Upto Γ0 i Γ
  MW:MainB C Post ⟨old,gb,n0,ws⟩ Γ (fun x=>keep x∨x=q0) (fun _=>False) w
  hlen:ws.length=i
  hg:GmG gb rv (.slice none 0 0) w
  cnt:∃ N:Nat,N≤i∧w.cell? (c0 gb 1)=some (.int .u64 (N * 4294967296:Nat))
  row:w.ownsRow 0 wkP 1 rv i (wsV ⟨old,gb,n0,ws⟩)
  rvO:∀ g,rv.ownBlock=some g→Own C ⟨old,gb,n0,ws⟩ Γ (fun x=>keep x∨x=q0) g∧¬ (⟨old,gb,n0,ws⟩:Gm).box g
  hb0:w.heap[q0]?=some (.cells #[.func (.func bf) #[] bcap] bty (0,0))
  kept:∀ x,keep x→w.heap[x]?=w0.heap[x]?
  size:w0.heap.size≤w.heap.size
section
variable {C:Cli} {Post:Value→World→Prop} {Γ0:C.G} {keep:Nat→Prop} {w0:World} {old:List Nat} {gb n0 q0 N:Nat} {bf:FuncId} {bfn:Func} {bcap:Array Value} {bty:TypeId}
set_option maxRecDepth 100000 in
set_option maxHeartbeats 16000000 in
theorem beg_rounds {c:Frame} {cs:List Frame} (hN:N < 199) (HF:BodyF bf bfn) (HB:∀ i k Γ,i < N→C.Upto Γ0 i Γ→BodyOk C n0 gb i k Post (C.own i Γ) bf bcap)
    (Hend:∀ Γ ws rv w,BegJ C Post Γ0 keep w0 old gb n0 q0 bf bcap bty N Γ ws rv w→∀ (i:Nat) (y0 y1 y2 y4 y6 y7 y8 y9 y12 y13 y14 y15 y16 y17 y18 y19 y20 y21 y22 y23 y24 y25 y26 y27 y28 y29 y30 y31 y32 y33 y34 y35 y36 y37 y38 y39 y40 y41 y42 y43 y44 y45 y46:Value),LM Try.prog Post (sitG ⟨old,gb,n0,ws⟩) (G ((bk 53 .normal).at ⟨#[y0,y1,y2,.pointer (some (c0 q0 0)),y4,.pointer (some (c0 gb 0)),y6,y7,y8,y9,.int .i64 (N:Int),.int .i64 (i:Int),y12,y13,y14,y15,y16,y17,y18,y19,y20,y21,y22,y23,y24,y25,y26,y27,y28,y29,y30,y31,y32,y33,y34,y35,y36,y37,y38,y39,y40,y41,y42,y43,y44,y45,y46],[]⟩ [.code begRest]) (c :: cs)) w) :
    ∀ d i Γ ws rv w,i + d=N→BegJ C Post Γ0 keep w0 old gb n0 q0 bf bcap bty i Γ ws rv w→∀ y0 y1 y2 y4 y6 y7 y8 y9 y12 y13 y14 y15 y16 y17 y18 y19 y20 y21 y22 y23 y24 y25 y26 y27 y28 y29 y30 y31 y32 y33 y34 y35 y36 y37 y38 y39 y40 y41 y42 y43 y44 y45 y46:Value,LM Try.prog Post (sitG ⟨old,gb,n0,ws⟩) (G ((bk 53 .normal).at ⟨#[y0,y1,y2,.pointer (some (c0 q0 0)),y4,.pointer (some (c0 gb 0)),y6,y7,y8,y9,.int .i64 (N:Int),.int .i64 (i:Int),y12,y13,y14,y15,y16,y17,y18,y19,y20,y21,y22,y23,y24,y25,y26,y27,y28,y29,y30,y31,y32,y33,y34,y35,y36,y37,y38,y39,y40,y41,y42,y43,y44,y45,y46],[]⟩ [.code begLoop,.inLoop begLoop,.inBlock 0,.code begRest]) (c :: cs)) w:=by
  intro d
  induction d with
  | zero =>
    intro i Γ ws rv w hj X y0 y1 y2 y4 y6 y7 y8 y9 y12 y13 y14 y15 y16 y17 y18 y19 y20 y21 y22 y23 y24 y25 y26 y27 y28 y29 y30 y31 y32 y33 y34 y35 y36 y37 y38 y39 y40 y41 y42 y43 y44 y45 y46
    have O:=ownM Try.prog Post
    have T:=O.toCtl
    have hj:i=N:=by omega
    subst hj
    have key:=Hend Γ ws rv w X i
    simp only [begLoop,seqL,seqR,blkOf,loopOf,Option.getD_some,Try.f53]
    refine laW ?_
    (refine l_cond T false (by simp [Act.eval] <;> omega) ?_;simp only [if_true,if_false,Bool.false_eq_true,↓reduceIte])
    refine l_exit T rfl ?_
    exact key _ _ _ _ _ _ _ _ _ _ _ _ _ _ _ _ _ _ _ _ _ _ _ _ _ _ _ _ _ _ _ _ _ _ _ _ _ _ _ _ _ _ _
  | succ d ih =>
    intro i Γ ws rv w hj X y0 y1 y2 y4 y6 y7 y8 y9 y12 y13 y14 y15 y16 y17 y18 y19 y20 y21 y22 y23 y24 y25 y26 y27 y28 y29 y30 y31 y32 y33 y34 y35 y36 y37 y38 y39 y40 y41 y42 y43 y44 y45 y46
    have O:=ownM Try.prog Post
    have T:=O.toCtl
    have hq:(Try.prog.funcs[53]?).any (·.norace)=false:=by rw [Try.func53];rfl
    have hjN:i < N:=by omega
    have hlen:=X.hlen
    have hgH:(⟨old,gb,n0,ws⟩:Gm).H gb:=.inl rfl
    simp only [begLoop,seqL,seqR,blkOf,loopOf,Option.getD_some,Try.f53]
    refine laW ?_
    (refine l_cond T true (by simp [Act.eval] <;> omega) ?_;simp only [if_true,if_false,Bool.false_eq_true,↓reduceIte])
    refine laW ?_
    refine l_block T ?_
    refine laW ?_
    refine l_new O hidesG (by simp) X.MW.hid rfl (by rfl) (by kernel_rfl) (fun n=>.pointer (some (c0 n 0))) (c:=#[.int .i64 0]) (t:=3) (fun v=>by go_simp) (fun w1 hn1 G1 hl1=>?_)
    walk_nrm
    have MW1:=X.MW.grow G1 fun x h=>h.elim
    have F1:=X.MW.fresh (x:=w.heap.size) (Nat.le_refl _)
    generalize hq1:w.heap.size=q1 at hn1 hl1 F1 ⊢
    obtain ⟨o1,o2,o3,o4,o5⟩:=own_store MW1.wf F1.H F1.chan 0 (.int .i64 (i:Int))
    have hct:w1.cell? ⟨q1,0,none⟩=some (.int .i64 0):=cell_of (a:=⟨q1,0,none⟩) hn1 rfl
    have hft:w1.frozen? ⟨q1,0,none⟩=false:=by unfold World.frozen?;simp only [hn1];simp
    (refine l_store O (by simp) rfl (by rfl) hct hft o1 o2 o3 o4 o5 (fun w₁ hc₁ hf₁=>⟨by go_simp,by simp [listed,go_sem,hc₁,hf₁];exact seen_cell hq _ _ _⟩) ?_;walk_nrm)
    have hb1:(w1.setCell ⟨q1,0,none⟩ (.int .i64 (i:Int))).heap[q1]?=some (.cells #[.int .i64 (i:Int)] 3 (0,0)):=setCell_self (a:=⟨q1,0,none⟩) _ hn1 rfl
    have nb1:¬ (⟨old,gb,n0,ws⟩:Gm).box q1:=MW1.notBox hn1 (by decide)
    have G2:Grow (c0 gb 1) (⟨old,gb,n0,ws⟩:Gm).H (fun x=>x=q1) w1 (w1.setCell ⟨q1,0,none⟩ (.int .i64 (i:Int))):=Grow.set MW1.hid _ _ F1.H rfl
    have MW2:=MW1.grow G2 fun x h _=>by
      have h:x=q1:=h
      subst h
      exact ⟨F1.foot,F1.H,F1.chan,nb1⟩
    have low2:∀ x,x < w.heap.size→¬ (⟨old,gb,n0,ws⟩:Gm).H x→(w1.setCell ⟨q1,0,none⟩ (.int .i64 (i:Int))).heap[x]?=w.heap[x]?:=fun x h1 h2=>(G2.low x (by omega) h2 (show ¬ x=q1 by omega)).trans (G1.low x h1 h2 id)
    have hg2:=(X.hg.grow G1 hgH).grow G2 hgH
    have cnt2:=cnt_grow (cnt_grow X.cnt G1 hgH) G2 hgH
    have hsz2:q1 + 1≤(w1.setCell ⟨q1,0,none⟩ (.int .i64 (i:Int))).heap.size:=by rw [setCell_size];omega
    generalize hw2:w1.setCell ⟨q1,0,none⟩ (.int .i64 (i:Int))=w2 at hb1 G2 MW2 low2 hg2 cnt2 hsz2 ⊢
    have hrvlt:∀ g,rv.ownBlock=some g→g < q1:=fun g hg=>by rw [← hq1];exact ownsRow_lt X.row g hg
    have hrow2:=ownsRow_of (fun g hg=>low2 g (ownsRow_lt X.row g hg) (X.rvO g hg).1.H) X.row
    refine l_end T ?_
    refine l_seq T ?_
    refine beg_r5 (keep:=fun x=>keep x∨x=q0) (dead:=fun _=>False) (gm:=⟨old,gb,n0,ws⟩) (Γ:=Γ) (z:=w2.heap.size) (R:=fun u=>w2.heap.size≤u.heap.size∧(∀ x,x < w2.heap.size→¬ (⟨old,gb,n0,ws⟩:Gm).H x→u.heap[x]?=w2.heap[x]?)∧GmG gb rv (.slice none 0 0) u∧∃ N:Nat,N≤i∧u.cell? (c0 gb 1)=some (.int .u64 (N * 4294967296:Nat))) (fun x hx h=>?_) ?_ ?_
    · have:=MW2.kplow (.inr (.inr h));omega
    · refine ⟨MW2,⟨Nat.le_refl _,fun _ _ _=>rfl,hg2,cnt2⟩,?_,Nat.le_refl _,fun h=>(by cases h),fun h=>(by cases h),fun h=>(by cases h),fun h=>(by cases h),fun h=>(by cases h)⟩
      rintro u1 u2 ⟨a1,a2,a3,a4⟩ GG
      exact ⟨Nat.le_trans a1 GG.size,fun x h1 h2=>(GG.low x (by omega) h2 (by omega)).trans (a2 x h1 h2),a3.grow GG hgH,cnt_grow a4 GG hgH⟩
    intro w3 tn bq bl vr Y z16 z17
    obtain ⟨a1,a2,a3,a4⟩:=Y.r
    obtain ⟨tz,tO,tc⟩:=Y.hTn rfl
    obtain ⟨qz,qO,qc⟩:=Y.hBk rfl
    obtain ⟨bz,bO,bc⟩:=Y.hBl rfl
    obtain ⟨vz,vO,vc,vne⟩:=Y.hVr rfl
    simp only [cond_true] at vc
    have tlt:=(Array.getElem?_eq_some_iff.1 tc).1
    have qlt:=(Array.getElem?_eq_some_iff.1 qc).1
    have blt:=(Array.getElem?_eq_some_iff.1 bc).1
    have vlt:=(Array.getElem?_eq_some_iff.1 vc).1
    have hself:Wk.Self ⟨bl,tn,bq,vr⟩:=by
      refine ⟨fun e=>?_,fun e=>?_,fun e=>vne rfl e.symm,Y.ne rfl rfl,fun e=>?_,fun e=>?_⟩
      · have e:bl=tn:=e
        rw [e,tc] at bc;cases bc
      · have e:bl=bq:=e
        rw [e,qc] at bc;cases bc
      · have e:tn=vr:=e
        rw [← e,tc] at vc;cases vc
      · have e:bq=vr:=e
        rw [← e,qc] at vc;cases vc
    have nbx:∀ x,w2.heap.size≤x→¬ (⟨old,gb,n0,ws⟩:Gm).box x:=fun x hx h=>by have:=MW2.kplow (.inr (.inr h));omega
    have q0lt:q0 < w2.heap.size:=by have:=(Array.getElem?_eq_some_iff.1 X.hb0).1;omega
    have MW3:=Y.MW.less (keep':=fun x=>(keep x∨x=q0)∨x=q1∨x=tn∨x=bq∨x=bl∨x=vr) (fun x hx=>by
      rcases hx with hx | rfl | rfl | rfl | rfl | rfl
      · exact .inl hx
      · exact .inr ⟨F1.foot,F1.H,F1.chan,by omega⟩
      · exact .inr ⟨tO.foot,tO.H,tO.chan,tlt⟩
      · exact .inr ⟨qO.foot,qO.H,qO.chan,qlt⟩
      · exact .inr ⟨bO.foot,bO.H,bO.chan,blt⟩
      · exact .inr ⟨vO.foot,vO.H,vO.chan,vlt⟩)
    have hvc:w3.cell? (c0 vr 0)=some (.pointer (some (c0 bl 0))):=by
      rw [cell_of (show w3.heap[(c0 vr 0).block]?=_ from vc) rfl];rfl
    have hrow3:=ownsRow_of (fun g hg=>a2 g (by have:=hrvlt g hg;omega) (X.rvO g hg).1.H) hrow2
    have hwl:(wsV (⟨old,gb,n0,ws⟩:Gm)).length=i:=by simp [wsV,hlen]
    have rvK:∀ g,rv.ownBlock=some g→¬ ((keep g∨g=q0)∨g=q1∨g=tn∨g=bq∨g=bl∨g=vr):=fun g hg h=>by
      have h1:=hrvlt g hg
      rcases h with h | h
      · exact (X.rvO g hg).1.kp h
      · omega
    refine l_seq T ?_
    refine beg_r6 (keep:=fun x=>(keep x∨x=q0)∨x=q1∨x=tn∨x=bq∨x=bl∨x=vr) (dead:=fun _=>False) (gm:=⟨old,gb,n0,ws⟩) (Γ:=Γ) (vr:=vr) (bl:=bl) (rv:=rv) (stv:=.slice none 0 0) (xs:=wsV (⟨old,gb,n0,ws⟩:Gm)) (R:=fun u=>w3.heap.size≤u.heap.size∧(∀ x,x < w3.heap.size→¬ (⟨old,gb,n0,ws⟩:Gm).H x→rv.ownBlock≠some x→u.heap[x]?=w3.heap[x]?)∧∃ N:Nat,N≤i∧u.cell? (c0 gb 1)=some (.int .u64 (N * 4294967296:Nat))) (by rw [hwl];omega) vO.H (fun u hu=>?_) ?_ ?_
    · unfold World.cell?
      rw [show (c0 vr 0).block=vr from rfl,hu.2.1 vr vlt vO.H (fun e=>by have:=hrvlt vr e;omega)]
      exact hvc
    · refine ⟨MW3,⟨Nat.le_refl _,fun _ _ _ _=>rfl,a4⟩,?_,?_,fun g hg=>⟨rvK g hg,(X.rvO g hg).1.foot,(X.rvO g hg).1.H,(X.rvO g hg).1.chan⟩,fun g hg=>(X.rvO g hg).2,fun _=>a3,fun _=>by rw [hwl];exact hrow3,fun _ h=>(by cases h),fun h=>(by cases h),fun h=>(by cases h)⟩
      · rintro u1 u2 ⟨b1,b2,b3⟩ GG
        exact ⟨Nat.le_trans b1 GG.size,fun x h1 h2 h3=>(GG.low x (by omega) h2 h3).trans (b2 x h1 h2 h3),cnt_grow b3 GG hgH⟩
      · rintro u y ⟨b1,b2,N',hN',b3⟩
        refine ⟨by rw [setCell_size];exact b1,fun x h1 h2 h3=>(setCell_ne u ⟨gb,0,none⟩ y (fun e=>h2 (by rw [show x=gb from e];exact hgH))).trans (b2 x h1 h2 h3),N',hN',?_⟩
        exact (cell_set_ne (.inr (by simp))).trans b3
    intro w4 x7 hd z18 z19 z20 z21 z22 z23 z24 z25 z26 z27
    obtain ⟨MW4,⟨b1,b2,b3⟩,hg4,hrow4,hO4⟩:=hd
    rw [hwl] at hrow4
    have lo4:∀ x,(keep x∨x=q0)∨x=q1∨x=tn∨x=bq∨x=bl∨x=vr→w4.heap[x]?=w3.heap[x]?:=fun x hx=>b2 x (MW3.kpfoot x hx).2.2.2 (MW3.kpfoot x hx).2.1 (fun e=>rvK x e hx)
    refine laW ?_
    (refine l_enter T (fn:=Try.f91) (c:=.skip) (g:=91) (xs:=#[.pointer (some (c0 gb 1)),.int .i64 1]) (by simp) rfl (by rfl) (fun w=>?_) (fun w=>?_) ?_;(focus go_simp);(focus (simp [go_sem,events_into Try.func91 (by kernel_rfl) (by kernel_rfl)])))
    obtain ⟨N4,hN4,c4⟩:=b3
    obtain ⟨N4',_,hh4⟩:=hg4
    have hc2:w4.cell? ⟨gb,2,none⟩=some (.int .u32 0):=cell_of (a:=⟨gb,2,none⟩) hh4 rfl
    refine add_one (K:=(⟨old,gb,n0,ws⟩:Gm).K) (S:=(⟨old,gb,n0,ws⟩:Gm).S) (Shun:=ShunOf (gb :: old)) (R0:=(⟨old,gb,n0,ws⟩:Gm).R0) (A0:=(⟨old,gb,n0,ws⟩:Gm).A0) (sn:=n0 + ws.length) (by simp [Gm.A0]) ?_ ?_ c4 ⟨_,hc2⟩ _ _ trivial (by simp [bk,Frame.at]) rfl (fun v s' w5 hP=>?_) (fun ch s' w5 hP=>by cases hP.1)
    · have:=(alive_gm (⟨old,gb,n0,ws⟩:Gm) (n0 + ws.length + 1)).1
      have e:(⟨old,gb,n0,ws⟩:Gm).ws.length=ws.length:=rfl
      omega
    · rintro g l _ _ hS e
      obtain ⟨_,p,hp,h⟩:=hS
      rw [h] at e
      injection e with e;injection e with e1 e2
      exact (MW4.wf.blk p (Gm.at hp)).1 e1
    obtain ⟨hv,rfl,w4',k4,r4,ck4,rfl⟩:=hP
    cases hv
    rw [bk_finish rfl]
    walk_nrm
    have hk4:k4≤i:=by
      obtain ⟨N',hN',h'⟩:=cnt_rw ⟨N4,hN4,c4⟩ r4 rfl
      rw [ck4] at h'
      injection h' with h'
      injection h' with _ h'
      omega
    have hgk:(w4'.setCell (c0 gb 1) (.int .u64 ((k4 + 1) * 4294967296:Nat))).heap[gb]?=some (.cells #[x7,.int .u64 ((k4 + 1) * 4294967296:Nat),.int .u32 0,.slice none 0 0] gameT (0,0)):=by
      obtain ⟨Nx,_,hx⟩:=(GmG.rw ⟨N4',by assumption,hh4⟩ r4 rfl:GmG gb x7 (.slice none 0 0) w4')
      exact setCell_self (a:=c0 gb 1) _ hx rfl
    have ne5:∀ x,x≠gb→(w4'.setCell (c0 gb 1) (.int .u64 ((k4 + 1) * 4294967296:Nat))).heap[x]?=w4.heap[x]?:=fun x hx=>(setCell_ne w4' (c0 gb 1) _ hx).trans (rw_heap r4 hx)
    have sz5:(w4'.setCell (c0 gb 1) (.int .u64 ((k4 + 1) * 4294967296:Nat))).heap.size=w4.heap.size:=by rw [setCell_size,r4.size]
    have MW5:MainB C Post ⟨old,gb,n0,ws⟩ Γ _ (fun _=>False) (w4'.setCell (c0 gb 1) (.int .u64 ((k4 + 1) * 4294967296:Nat))):=MW4.gbset ne5 ⟨_,_,hgk,by simp⟩ (by rw [sz5];exact Nat.le_refl _)
    have hg5:GmG gb x7 (.slice none 0 0) (w4'.setCell (c0 gb 1) (.int .u64 ((k4 + 1) * 4294967296:Nat))):=⟨k4 + 1,by omega,hgk⟩
    have cnt5:∃ N:Nat,N≤i + 1∧(w4'.setCell (c0 gb 1) (.int .u64 ((k4 + 1) * 4294967296:Nat))).cell? (c0 gb 1)=some (.int .u64 (N * 4294967296:Nat)):=⟨k4 + 1,by omega,cell_set ck4⟩
    generalize hw5:w4'.setCell (c0 gb 1) (.int .u64 ((k4 + 1) * 4294967296:Nat))=w5 at hgk ne5 sz5 MW5 hg5 cnt5 ⊢
    have kg:∀ x,(keep x∨x=q0)∨x=q1∨x=tn∨x=bq∨x=bl∨x=vr→x≠gb:=fun x hx e=>(MW4.kpfoot x hx).2.1 (e ▸ hgH)
    have lo5:∀ x,(keep x∨x=q0)∨x=q1∨x=tn∨x=bq∨x=bl∨x=vr→w5.heap[x]?=w3.heap[x]?:=fun x hx=>(ne5 x (kg x hx)).trans (lo4 x hx)
    have x7g:∀ g,x7.ownBlock=some g→g≠gb:=fun g hg e=>(hO4 g hg).1.H (e ▸ hgH)
    have hrow5:=ownsRow_of (fun g hg=>ne5 g (x7g g hg)) hrow4
    have MW6:=MW5.less (keep':=fun x=>(keep x∨x=q0)∨x=q1∨x7.ownBlock=some x) (fun x hx=>by
      rcases hx with hx | hx | hx
      · exact .inl (.inl hx)
      · exact .inl (.inr (.inl hx))
      · exact .inr ⟨(hO4 x hx).1.foot,(hO4 x hx).1.H,(hO4 x hx).1.chan,ownsRow_lt hrow5 x hx⟩)
    have own6:∀ {x},Own C (⟨old,gb,n0,ws⟩:Gm) Γ (fun x=>keep x∨x=q0) x→w2.heap.size≤x→(x=tn∨x=bq∨x=bl∨x=vr)→Own C (⟨old,gb,n0,ws⟩:Gm) Γ (fun x=>(keep x∨x=q0)∨x=q1∨x7.ownBlock=some x) x:=fun {x} o hz hx=>⟨fun h=>by
      rcases h with h | h | h
      · exact o.kp h
      · omega
      · exact (hO4 x h).1.kp (.inr (.inr hx)),o.foot,o.H,o.chan⟩
    refine l_end T ?_
    refine l_seq T ?_
    refine beg_r8 (keep:=fun x=>(keep x∨x=q0)∨x=q1∨x7.ownBlock=some x) (dead:=fun _=>False) (gm:=⟨old,gb,n0,ws⟩) (Γ:=Γ) (tn:=tn) (bq:=bq) (bl:=bl) (vr:=vr) (q0:=q0) (q1:=q1) (bty:=bty) (bf:=bf) (bfn:=bfn) (bcap:=bcap) MW6 hself (fun x hx=>?_) (by show ws.length + 1 < 200;omega) ((lo5 tn (by simp)).trans tc) ((lo5 bq (by simp)).trans qc) ((lo5 bl (by simp)).trans bc) ((lo5 vr (by simp)).trans vc) ⟨nbx bl bz,nbx vr vz⟩ id ?_ HF.f HF.n HF.b ⟨.inl (.inr rfl),?_⟩ ⟨.inr (.inl rfl),?_⟩ (fun st' Γ' w6 nx6 hd6 hbx6=>?_)
    · simp only [Wk.nums,List.mem_cons,List.not_mem_nil,or_false] at hx
      rcases hx with rfl | rfl | rfl | rfl
      · exact own6 bO bz (by simp)
      · exact own6 tO tz (by simp)
      · exact own6 qO qz (by simp)
      · exact own6 vO vz (by simp)
    · intro k
      have:=HB i k Γ hjN X.up
      rw [← hlen] at this
      exact this
    · exact (lo5 q0 (by simp)).trans ((a2 q0 q0lt (MW2.kpfoot q0 (.inr rfl)).2.1).trans ((low2 q0 (Array.getElem?_eq_some_iff.1 X.hb0).1 (MW2.kpfoot q0 (.inr rfl)).2.1).trans X.hb0))
    · refine (lo5 q1 (by simp)).trans ((a2 q1 (by omega) F1.H).trans ?_)
      show w2.heap[q1]?=some (.cells #[.int .i64 (ws.length:Nat)] 3 (0,0))
      rw [hlen];exact hb1
    obtain ⟨MW7,hk7,⟨wr,r7,hgb7⟩,hsz7⟩:=hd6
    intro z32 z33 z34 z35 z36 z37 z38 z39 z40 z41 z42 z43 z44
    have hwsV:wsV ⟨old,gb,n0,ws ++ [(⟨bl,tn,bq,vr⟩,st')]⟩=wsV (⟨old,gb,n0,ws⟩:Gm) ++ [.pointer (some (c0 bl 0))]:=by simp [wsV]
    have MW7':MainB C Post ⟨old,gb,n0,ws ++ [(⟨bl,tn,bq,vr⟩,st')]⟩ Γ' (fun x=>(keep x∨x=q0)∨x=q1∨x7.ownBlock=some x) (fun _=>False) w6:=by
      exact MW7
    have nx6':C.next i Γ Γ':=by rw [show (⟨old,gb,n0,ws⟩:Gm).ws.length=i from hlen] at nx6;exact nx6
    have X':BegJ C Post Γ0 keep w0 old gb n0 q0 bf bcap bty (i + 1) Γ' (ws ++ [(⟨bl,tn,bq,vr⟩,st')]) x7 w6:=by
      refine ⟨⟨Γ,X.up,nx6'⟩,MW7'.less fun x hx=>.inl (.inl hx),by simp [hlen],hg5.rw r7 hgb7,cnt_rw cnt5 r7 hgb7,?_,fun g hg=>⟨⟨fun h=>(hO4 g hg).1.kp (.inl h),(MW7'.kpfoot g (.inr (.inr hg))).1,(MW7'.kpfoot g (.inr (.inr hg))).2.1,(MW7'.kpfoot g (.inr (.inr hg))).2.2.1⟩,fun h=>?_⟩,?_,fun x hx=>?_,?_⟩
      · rw [hwsV]
        exact ownsRow_of (fun g hg=>hk7 g (.inr (.inr hg))) hrow5
      · rcases hbx6 g h with h | h
        · exact (hO4 g hg).2 h
        · have:=ownsRow_lt hrow5 g hg;omega
      · exact (hk7 q0 (.inl (.inr rfl))).trans ((lo5 q0 (by simp)).trans ((a2 q0 q0lt (MW2.kpfoot q0 (.inr rfl)).2.1).trans ((low2 q0 (Array.getElem?_eq_some_iff.1 X.hb0).1 (MW2.kpfoot q0 (.inr rfl)).2.1).trans X.hb0)))
      · have h2:=MW2.kpfoot x (.inl hx)
        have h1:=X.MW.kpfoot x (.inl hx)
        exact (hk7 x (.inl (.inl hx))).trans ((lo5 x (.inl (.inl hx))).trans ((a2 x h2.2.2.2 h2.2.1).trans ((low2 x h1.2.2.2 h1.2.1).trans (X.kept x hx))))
      · have:=X.size
        omega
    have key:=ih (i + 1) Γ' _ x7 w6 (by omega) X'
    simp only [begLoop,begRest,seqL,seqR,blkOf,loopOf,Option.getD_some,Try.f53] at key ⊢
    refine l_inBlock T ?_
    refine laW ?_
    have ew:IntKind.i64.wrap ((i:Int) + 1)=((i + 1:Nat):Int):=by rw [IntKind.wrap_i64];omega
    try simp only [ew]
    refine l_inLoop T ?_
    exact key _ _ _ _ _ _ _ _ _ _ _ _ _ _ _ _ _ _ _ _ _ _ _ _ _ _ _ _ _ _ _ _ _ _ _ _ _ _ _ _ _ _ _
end
end Go.Proofs.Ytndppafplgilbaa
