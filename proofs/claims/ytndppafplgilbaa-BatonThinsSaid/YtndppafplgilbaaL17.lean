/-
  larchlaw04.BatonThins returns true for every input. No condition. (Part 17 of 49; joined by program.)
-/
import Derived.Test.YtndppafplgilbaaL16
import Derived.WideLaws
set_option linter.unusedVariables false
set_option linter.unusedSimpArgs false
set_option linter.unusedSectionVars false
set_option maxRecDepth 100000
namespace Go.Proofs.Ytndppafplgilbaa
open Go Go.Conc
open Go.ConcN (sumTo upd sumTo_upd upd_ne upd_same)
section
variable {C:Cli} {gb i:Nat} {k:Wk} {gh:Gst C} {Γ' Γ'':C.G} {w w' v v':World}
theorem masked_hid {H:Nat→Prop} (M:Masked H 0 v w):HidOk H w:=fun k hk=>by
  obtain ⟨c,e,h1,h2,_⟩:=M.hid k hk
  exact ⟨c,e,h1,h2⟩
theorem Alone.own {H:Nat→Prop} (A:Alone (c0 gb 1) H w v' w') {x:Nat} (hx:H x) (hne:x≠gb):w'.heap[x]?=w.heap[x]?:=by
  obtain ⟨w1,r,hk⟩:=A.kept.hid
  rw [hk x hx]
  exact rw_heap r hne
theorem Alone.obj {H:Nat→Prop} (A:Alone (c0 gb 1) H w v' w') {x:Nat} {o:Obj} (hx:w.heap[x]?=some o) (hno:∀ c e f,o≠.cells c e f):w'.heap[x]?=some o:=A.kept.objs x o hx hno
theorem Did.alone (D:Did C gb k gh Γ' w) (hgb:gh.gm.gb=gb) (hbk:k.blk≠gb) (M:Masked gh.gm.H 0 v w) (A:Alone (c0 gb 1) gh.gm.H w v' w') (hM:C.M Γ'' w') (hgrow:∀ x,C.foot Γ'' x→C.foot Γ' x∨w.heap.size≤x) (hkp:∀ x,gh.kp x→v'.heap[x]?=v.heap[x]?) (kpH:∀ x,gh.kp x→¬ gh.gm.H x):Did C gb k gh Γ'' w':=by
  refine ⟨hM,fun x hx=>?_,fun x hx=>(Alone.keep M A (kpH x hx) (hkp x hx)).trans (D.kp x hx),?_,masked_hid A.masked,Nat.le_trans D.size A.kept.size⟩
  · rcases hgrow x hx with h | h
    · exact D.grow x h
    · exact .inr (Nat.le_trans D.size h)
  · obtain ⟨w1,r1,h1⟩:=D.hid
    obtain ⟨w2,r2,h2⟩:=A.kept.hid
    have hgH:gh.gm.H gb:=.inl hgb.symm
    rcases r2 with ⟨d,rfl⟩ | ⟨n,n₁,d,h3,h4,rfl⟩
    · exact ⟨w1,r1,fun x hx hxk=>(h2 x hx).trans (h1 x hx hxk)⟩
    · obtain ⟨c,e,f,h5,h6,h7⟩:=cell_some h3
      have h5':w.heap[gb]?=some (.cells c e f):=h5
      have h8:w1.heap[gb]?=some (.cells c e f):=(h1 gb hgH (fun e=>hbk e.symm)).symm.trans h5'
      have h9:w1.cell? (c0 gb 1)=some (.int .u64 (n * 4294967296:Nat)):=by rw [cell_of (show w1.heap[(c0 gb 1).block]?=_ from h8) rfl];exact h7
      refine ⟨_,r1.trans (.inr ⟨n,n₁,d,h9,h4,rfl⟩),fun x hx hxk=>(h2 x hx).trans ?_⟩
      show (w.setCell (c0 gb 1) _).heap[x]?=(w1.setCell (c0 gb 1) _).heap[x]?
      by_cases ex:x=gb
      · subst ex
        rw [setCell_self (a:=c0 x 1) _ (show w.heap[(c0 x 1).block]?=_ from h5') rfl,setCell_self (a:=c0 x 1) _ (show w1.heap[(c0 x 1).block]?=_ from h8) rfl]
      · rw [setCell_ne w (c0 gb 1) _ ex,setCell_ne w1 (c0 gb 1) _ ex];exact h1 x hx hxk
theorem Did.store (D:Did C gb k gh Γ' w) (hkH:gh.gm.H k.blk) (kpH:∀ x,gh.kp x→¬ gh.gm.H x) (footH:∀ x,gh.gm.H x→¬ C.foot Γ' x) (o:Nat) (y:Value):Did C gb k gh Γ' (w.setCell (c0 k.blk o) y):=by
  have hne:∀ x,x≠k.blk→(w.setCell (c0 k.blk o) y).heap[x]?=w.heap[x]?:=fun x hx=>setCell_ne w (c0 k.blk o) y hx
  refine ⟨C.stable _ _ _ D.M fun x hx=>hne x (fun e=>footH _ hkH (e ▸ hx)),D.grow,fun x hx=>(hne x (fun e=>kpH x hx (e ▸ hkH))).trans (D.kp x hx),?_,fun x hx=>?_,by rw [setCell_size];exact D.size⟩
  · obtain ⟨w1,r1,h1⟩:=D.hid
    exact ⟨w1,r1,fun x hx hxk=>(hne x hxk).trans (h1 x hx hxk)⟩
  · obtain ⟨c,e,h3,h4⟩:=D.hidOk x hx
    by_cases ex:x=k.blk
    · subst ex
      exact ⟨_,e,setCell_self (a:=c0 k.blk o) y (show w.heap[(c0 k.blk o).block]?=_ from h3) rfl,by simpa using h4⟩
    · exact ⟨c,e,(hne x ex).trans h3,h4⟩
theorem Did.footH (D:Did C gb k gh Γ' w) (h1:∀ x,gh.gm.H x→x < gh.w0.heap.size) (h2:∀ x,gh.gm.H x→¬ C.foot gh.Γ x):∀ x,gh.gm.H x→¬ C.foot Γ' x:=fun x hx hf=>by
  rcases D.grow x hf with h | h
  · exact h2 x hx h
  · have:=h1 x hx;omega
end
section
variable {C:Cli} {ty pty:TypeId} {n0 gb i:Nat} {k:Wk} {gh:Gst C} {Γ':C.G} {w w' v v':World}
theorem Mid.alone (E:Mid C ty n0 gb i k gh Γ' w) (M:Masked gh.gm.H 0 v w) (A:Alone (c0 gb 1) gh.gm.H w v' w') (hnew:∀ x,x < v.heap.size→v'.heap[x]?=v.heap[x]?) :
    Mid C ty n0 gb i k gh Γ' w'∧∀ x,x < w.heap.size→¬ gh.gm.H x→w'.heap[x]?=w.heap[x]?:=by
  have hlow:∀ x,x < w.heap.size→¬ gh.gm.H x→w'.heap[x]?=w.heap[x]?:=fun x hx hH=>Alone.keep M A hH (hnew x (by rw [M.size];exact hx))
  have hbk:k.blk≠gb:=by rw [← E.hgb];exact (E.wf.blk _ (Gm.at E.at_)).1
  have hfH:=E.did.footH E.H_low E.H_foot
  refine ⟨⟨E.at_,E.hn0,E.hgb,E.hpn,E.wf,E.kp_low,E.kp_foot,E.kp_H,E.H_low,E.H_foot,E.did.alone E.hgb hbk M A (C.stable _ _ _ E.did.M fun x hx=>hlow x (C.low _ _ E.did.M x hx) fun h=>hfH x h hx) (fun x hx=>.inl hx) (fun x hx=>hnew x (by rw [M.size];exact Nat.lt_of_lt_of_le (E.kp_low x hx) E.did.size)) E.kp_H,(A.own (.inr (.inr ⟨_,Gm.at E.at_,.inl rfl⟩)) hbk).trans E.wk,⟨E.chT.1,?_⟩,⟨E.chB.1,?_⟩⟩,hlow⟩
  · obtain ⟨_,cl,n,hn⟩:=E.chT
    exact ⟨cl,n,A.obj hn fun _ _ _ h=>by cases h⟩
  · obtain ⟨_,n,hn⟩:=E.chB
    exact ⟨n,A.obj hn fun _ _ _ h=>by cases h⟩
theorem Mid.ending {fb:Nat} {n0':Nat} (E:Mid C ty n0 gb i k gh Γ' w):gh.gm.H k.blk∧(∀ x,gh.gm.H x→¬ C.foot Γ' x):=⟨.inr (.inr ⟨_,Gm.at E.at_,.inl rfl⟩),E.did.footH E.H_low E.H_foot⟩
end
section
variable {C:Cli} {ty pty:TypeId} {n0 gb i:Nat} {k:Wk} {gh:Gst C} {Γ':C.G} {w w' v v':World}
def Gst.based (gh:Gst C) (fb:Nat) (w1:World):Gst C:={ gh with w0:=w1,kp:=fun x=>gh.kp x∨x=fb,bx:=fun x=>gh.bx x∨x=fb }
theorem Did.based {fb:Nat} {w1:World} (hbk:k.blk≠gb) (hgH:gh.gm.H gb) (D1:Did C gb k gh gh.Γ w1) (hk1:w1.heap[k.blk]?=gh.w0.heap[k.blk]?) (D:Did C gb k (gh.based fb w1) Γ' w):Did C gb k gh Γ' w:=by
  refine ⟨D.M,fun x hx=>?_,fun x hx=>(D.kp x (.inl hx)).trans (D1.kp x hx),?_,D.hidOk,Nat.le_trans D1.size D.size⟩
  · rcases D.grow x hx with h | h
    · exact .inl h
    · exact .inr (Nat.le_trans D1.size h)
  · obtain ⟨w2,r2,h2⟩:=D.hid
    obtain ⟨w3,r3,h3⟩:=D1.hid
    have r2:RW (c0 gb 1) w1 w2:=r2
    rcases r2 with ⟨d,rfl⟩ | ⟨n,n₁,d,h4,h5,rfl⟩
    · exact ⟨w3,r3,fun x hx hxk=>(h2 x hx hxk).trans (h3 x hx hxk)⟩
    · obtain ⟨c,e,f,h6,h7,h8⟩:=cell_some h4
      have h6':w1.heap[gb]?=some (.cells c e f):=h6
      have h9:w3.heap[gb]?=some (.cells c e f):=(h3 gb hgH (fun e=>hbk e.symm)).symm.trans h6'
      have h10:w3.cell? (c0 gb 1)=some (.int .u64 (n * 4294967296:Nat)):=by rw [cell_of (show w3.heap[(c0 gb 1).block]?=_ from h9) rfl];exact h8
      refine ⟨_,r3.trans (.inr ⟨n,n₁,d,h10,h5,rfl⟩),fun x hx hxk=>(h2 x hx hxk).trans ?_⟩
      show (w1.setCell (c0 gb 1) _).heap[x]?=(w3.setCell (c0 gb 1) _).heap[x]?
      by_cases ex:x=gb
      · subst ex
        rw [setCell_self (a:=c0 x 1) _ (show w1.heap[(c0 x 1).block]?=_ from h6') rfl,setCell_self (a:=c0 x 1) _ (show w3.heap[(c0 x 1).block]?=_ from h9) rfl]
      · rw [setCell_ne w1 (c0 gb 1) _ ex,setCell_ne w3 (c0 gb 1) _ ex];exact h3 x hx hxk
theorem KontC.based {P:Program} {Post:Value→World→Prop} {I:Nat→C.X→Goroutine→Prop} {fb:Nat} {w1:World} (hbk:k.blk≠gb) (hgH:gh.gm.H gb) (D1:Did C gb k gh gh.Γ w1) (hk1:w1.heap[k.blk]?=gh.w0.heap[k.blk]?) (hkT:gh.kp k.turn) (hfbl:gh.w0.heap.size≤fb) (K:KontC C ty pty gb i k P Post I gh):KontC C ty pty gb i k P Post I (gh.based fb w1) :=
  ⟨fun Γ' fb' kind w n h0 h1 h2 h3 h4 h5 h6 h7 h8=>K.yield Γ' fb' kind w n h0 h1 (Did.based hbk hgH D1 hk1 h2) h3 h4 h5 h6 h7 (h8.elim (fun h=>.inl (Nat.le_trans D1.size h)) fun h=>h.elim .inr fun h=>.inl (by rw [h];exact hfbl)),fun Γ' kd ov w n h0 h1 h2 h3 h4=>K.fin Γ' kd ov w n h0 h1 (Did.based hbk hgH D1 hk1 h2) h3 h4,by
    obtain ⟨n,hn⟩:=K.openT
    exact ⟨n,(D1.kp _ hkT).trans hn⟩⟩
theorem Mid.based {fb:Nat} {w1:World} (M:Mid C ty n0 gb i k gh gh.Γ w1) (hlow:∀ x,x < gh.w0.heap.size→¬ gh.gm.H x→w1.heap[x]?=gh.w0.heap[x]?) (hfb:gh.w0.heap.size≤fb) (hfb2:fb < w1.heap.size) (hfoot:¬ C.foot gh.Γ fb) (hb:BoxAt pty k fb w1):Ready C ty pty n0 gb i k fb (gh.based fb w1) w1:=by
  refine ⟨⟨M.at_,M.hn0,M.hgb,M.hpn,M.wf,fun x hx=>?_,fun x hx=>?_,fun x hx=>?_,fun x hx=>?_,M.H_foot,⟨M.did.M,fun x hx=>.inl hx,fun x hx=>rfl,⟨w1,RW.refl,fun _ _ _=>rfl⟩,M.did.hidOk,Nat.le_refl _⟩,M.wk,⟨.inl M.chT.1,M.chT.2⟩,⟨.inl M.chB.1,M.chB.2⟩⟩,rfl,⟨.inr rfl,hb⟩,.inr (.inr rfl)⟩
  · rcases hx with hx | rfl
    · exact Nat.lt_of_lt_of_le (M.kp_low x hx) M.did.size
    · exact hfb2
  · rcases hx with hx | rfl
    · exact M.kp_foot x hx
    · exact hfoot
  · rcases hx with hx | rfl
    · exact M.kp_H x hx
    · intro hH;have:=M.H_low x hH;omega
  · exact Nat.lt_of_lt_of_le (M.H_low x hx) M.did.size
end
section
variable {P:Program} {Post:Value→World→Prop} {s:Sit} {h:Nat} {w:World}
theorem Lh.giveE (ok:s.Ok) (hd0:s.d=0) {a a₂:Goroutine} {j c k:Nat} {z v:Value} {okr:Bool} {home:Goroutine→Prop} {r':Role} {S':Loc→Prop} (hjh:j≠h) (hjn:j < s.n) (hj:s.R0 j=.seat c z okr home) (hat:AtSend P (h == 0) s.S s.Shun s.R0 h c v a a₂)
    (hc:w.heap[c]?=some (.chan 0 #[] false k k false)) (B:∃ nh,Becomes P s h w (Go.Conc.served a₂ undef) r' S' nh)
    (H:∀ g₂,home g₂→Lh P Post { s with S:=fun g=>if g=h then S' else s.S g,R0:=upd s.R0 h r' } j (Go.Conc.served g₂ (recvd okr v true)) (w.setChan c 0 #[] false (k + 1) (k + 1) false)):Lh P Post s h a w:=by
  obtain ⟨nh,B⟩:=B
  exact Lh.give ok hd0 hjh hjn hj hat hc B H
theorem Becomes.ofSeat {g':Goroutine} {c:Nat} {z:Value} {okr:Bool} {home:Goroutine→Prop} {S':Loc→Prop} (h1:∀ l,S' l→l.isMemory=true∧¬ s.Shun l) (h2:∀ x,S' (.cell x)→x.block < w.heap.size)
    (h3:c≠s.st.block∧(∀ x,x≠h→¬ (s.R0 x).has c)∧∃ cap k,w.heap[c]?=some (.chan cap #[] false k k false)) (hs:∃ n,SitsS P (h == 0) s.K S' c z okr home n g'):∃ nh,Becomes P s h w g' (.seat c z okr home) S' nh:=by
  obtain ⟨n,hs⟩:=hs
  refine ⟨n,h1,h2,fun c' hc'=>?_,fun h=>(by cases h),fun _ h=>(by cases h),fun T' _=>?_⟩
  · have hc':c'=c:=hc'
    subst hc';exact h3
  · show SitsS P (h == 0) s.K (if h=h then S' else s.S h) c z okr home n g'
    rw [if_pos rfl];exact hs
end
section
variable {g:Gm} {home0:Goroutine→Prop} {k:Wk}
theorem sitC_S {x o:Nat} (ho:2≤o):¬ (sitC g home0 k).S x (.cell (c0 k.blk o)):=fun hS=>by
  have hS:(if x=0 then S0 k else g.S x) (.cell (c0 k.blk o)):=hS
  by_cases e:x=0
  · rw [if_pos e] at hS
    rcases hS with h | h
    · cases h;omega
    · injection h with h;injection h with h1 h2;omega
  · rw [if_neg e] at hS
    obtain ⟨_,p,_,h⟩:=hS
    injection h with h;injection h with h1 h2;omega
theorem sitC_ch (W:g.Wf) {i:Nat} {st:St} (hi:g.ws[i]?=some (k,st)) {x c:Nat} (h:((sitC g home0 k).R0 x).has c):c≠k.blk:=by
  rcases sitC_has h with ⟨_,rfl⟩ | ⟨_,hx⟩
  · exact (W.chanK hi (.inr rfl) (Gm.at hi)).1
  · obtain ⟨_,p,hp,rfl,_⟩:=Gm.R0_seat hx
    exact (W.chanK hp (.inl rfl) (Gm.at hi)).1
end
theorem run_into {P:Program} {f:FuncId} {fn:Func} (hf:P.funcs[f]?=some fn) (hname:(fn.name == "runtime.NumGoroutine")=false) (hb:fn.body.isNone=false) (args:Array Value) (w:World):(callFunc f args).run P w=.ok (.enter f args) w:=by
  have h1:fn.name ≠ "runtime.NumGoroutine" := by simpa using hname
  cases hc:fn.body with
  | none=>rw [hc] at hb;cases hb
  | some c=>simp [callFunc,hf,h1,hc]
theorem events_into {P:Program} {f:FuncId} {fn:Func} (hf:P.funcs[f]?=some fn) (hname:(fn.name == "runtime.NumGoroutine")=false) (hb:fn.body.isNone=false) (args:Array Value) (w:World):(callFunc f args).events P w #[]=#[]:=by
  have h1:fn.name ≠ "runtime.NumGoroutine" := by simpa using hname
  cases hc:fn.body with
  | none=>rw [hc] at hb;cases hb
  | some c=>simp [callFunc,hf,h1,hc,Result.evThen]
section
variable {P:Program} (w:World) (es:Array Event)
theorem events_equalIn_held_nil (d:Nat) (t u:TypeId) (x:Value) (h:P.underlying t=some (.interface (P.methodsAt t))):(Op.equalIn (d + 1) t (.iface u x) .nilIface).events P w es=es:=by
  simp [Op.equalIn,run_underlying h,Result.evThen]
theorem events_equalIn_nil_nil (d:Nat) (t:TypeId) (h:P.underlying t=some (.interface (P.methodsAt t))):(Op.equalIn (d + 1) t .nilIface .nilIface).events P w es=es:=by
  simp [Op.equalIn,run_underlying h,Result.evThen]
theorem events_equal_held_nil (t u:TypeId) (x:Value) (h:P.underlying t=some (.interface (P.methodsAt t))):(Op.equal t (.iface u x) .nilIface).events P w es=es:=events_equalIn_held_nil w es 9999 t u x h
theorem events_equal_nil_nil (t:TypeId) (h:P.underlying t=some (.interface (P.methodsAt t))):(Op.equal t .nilIface .nilIface).events P w es=es:=events_equalIn_nil_nil w es 9999 t h
@[go_sem] theorem events_neq_held_nil (t u:TypeId) (x:Value) (h:P.underlying t=some (.interface (P.methodsAt t))):(binOp .neq t (.iface u x) .nilIface).events P w es=es:=by
  simp only [binOp]
  simp [run_equal_held_nil w t u x h,events_equal_held_nil w es t u x h,Result.evThen]
@[go_sem] theorem events_neq_nil_nil (t:TypeId) (h:P.underlying t=some (.interface (P.methodsAt t))):(binOp .neq t .nilIface .nilIface).events P w es=es:=by
  simp only [binOp]
  simp [run_equal_nil_nil w t h,events_equal_nil_nil w es t h,Result.evThen]
end
section
variable {P:Program} {Gh:Type} {sit:Gh→Sit} {h:Nat} {L:Gh→Goroutine→World→Prop} (O:OwnL P sit h L)
variable {f:FuncId} {kd:CallKind} {s:Gh} {a:Act} {w:World} {k:List Item} {cs:List Frame}
include O
theorem l_none (hkd:kd≠.early) {ops:Array Oper} {i:Nat} {rest:List Nat} {o:Oper} (ho:ops[i]?=some o) (hw:Region.wanted o (yielded ops a.tmps)=true) (hr:∀ w,(execOp a.eval o).run P w=.ok .skip w) (he:∀ w,(execOp a.eval o).events P w #[]=#[])
    (hn:L s (G ((bk f kd).at (a.put o.dst undef) (.inRegion ops rest :: k)) cs) w):L s (G ((bk f kd).at a (.inRegion ops (i :: rest) :: k)) cs) w:=by
  refine l_do O hkd ho hw fun hsok w₁ r=>⟨w₁,hr w₁,?_,fun d=>?_,O.rely _ _ _ _ hn r⟩
  · have hl:listed P f a o w₁=#[]:=by unfold listed;rw [he,seen_none]
    rw [hl];exact DT.idle
  · have hl:listed P f a o w₁=#[]:=by unfold listed;rw [he,seen_none]
    rw [hl];rfl
end
end Go.Proofs.Ytndppafplgilbaa
namespace Go.Proofs.Ytndppafplgilbaa
open Go Go.Conc
open Go.ConcN (sumTo upd sumTo_upd upd_ne upd_same)
section
variable {P:Program} {Post:Value→World→Prop}
def LM (P:Program) (Post:Value→World→Prop) (s:Sit) (g:Goroutine) (w:World):Prop:=s.Ok→Lh P Post s 0 g w
theorem ownM (P:Program) (Post:Value→World→Prop):OwnL P (fun s:Sit=>s) 0 (LM P Post) :=
  ⟨fun s g w hok hr H ok=>Lh.step ok hr fun w₁ r=>by
      obtain ⟨g',w',es,h1,h2,h3,h4⟩:=H w₁ r
      refine ⟨g',w',es,h1,h2,?_⟩
      rw [h3];exact h4 ok,
    fun s g w w₁ H r ok=>(H ok).rw r,fun s g w H ok=>H ok ok⟩
theorem give_on {g:Gm} (W:g.Wf) {i:Nat} {k:Wk} {st:St} (hi:g.ws[i]?=some (k,st)) (home0:Goroutine→Prop) {a:Goroutine} {w:World} (H:Lh P Post (sitC (g.put i .gone) home0 k) (g.n0 + i) a w) :
    Lh P Post { sitG g with S:=fun x=>if x=0 then S0 k else g.S x,R0:=upd g.R0 0 (.seat k.back (.bool false) false home0) } (g.n0 + i) a w:=by
  have hp:=W.pos
  have hR:=put_R0 hi .gone
  refine Lh.self (S':=(sitC (g.put i .gone) home0 k).S) (R':=(sitC (g.put i .gone) home0 k).R0) (fun x hx=>?_) (fun x hx=>?_) ?_ ?_
  · show (if x=0 then S0 k else (g.put i .gone).S x)=if x=0 then S0 k else g.S x
    rw [put_S]
  · show upd (g.put i .gone).R0 0 _ x=upd g.R0 0 _ x
    by_cases e:x=0
    · rw [e,upd_same,upd_same]
    · rw [upd_ne _ _ e,upd_ne _ _ e,hR,upd_ne _ _ hx]
  · show upd (g.put i .gone).R0 0 _ (g.n0 + i)=.leave
    rw [upd_ne _ _ (by omega),hR,upd_same];rfl
  · have e:=sitG_put hi .gone
    have e2:({ sitG g with S:=(sitC (g.put i .gone) home0 k).S,R0:=(sitC (g.put i .gone) home0 k).R0 }:Sit)=sitC (g.put i .gone) home0 k:=by
      unfold sitC
      rw [e]
    show Lh P Post { sitG g with S:=(sitC (g.put i .gone) home0 k).S,R0:=(sitC (g.put i .gone) home0 k).R0 } _ a w
    rw [e2];exact H
theorem give_off {g:Gm} (W:g.Wf) {i:Nat} {k:Wk} {st:St} (hi:g.ws[i]?=some (k,st)) (home0:Goroutine→Prop) {a:Goroutine} {w:World} (H:Lh P Post (sitC (g.put i .gone) home0 k) (g.n0 + i) a w) :
    Lh P Post { sitG g with S:=fun x=>if x=0 then S0 k else g.S x,R0:=upd (upd g.R0 0 (.seat k.back (.bool false) false home0)) (g.n0 + i) .leave } (g.n0 + i) a w:=by
  have hp:=W.pos
  have hR:=put_R0 hi .gone
  refine Lh.self (S':=(sitC (g.put i .gone) home0 k).S) (R':=(sitC (g.put i .gone) home0 k).R0) (fun x hx=>?_) (fun x hx=>?_) ?_ ?_
  · show (if x=0 then S0 k else (g.put i .gone).S x)=if x=0 then S0 k else g.S x
    rw [put_S]
  · show upd (g.put i .gone).R0 0 _ x=upd (upd g.R0 0 _) (g.n0 + i) .leave x
    rw [upd_ne (upd g.R0 0 _) _ hx]
    by_cases e:x=0
    · rw [e,upd_same,upd_same]
    · rw [upd_ne _ _ e,upd_ne _ _ e,hR,upd_ne _ _ hx]
  · show upd (g.put i .gone).R0 0 _ (g.n0 + i)=.leave
    rw [upd_ne _ _ (by omega),hR,upd_same];rfl
  · have e:=sitG_put hi .gone
    have e2:({ sitG g with S:=(sitC (g.put i .gone) home0 k).S,R0:=(sitC (g.put i .gone) home0 k).R0 }:Sit)=sitC (g.put i .gone) home0 k:=by
      unfold sitC
      rw [e]
    show Lh P Post { sitG g with S:=(sitC (g.put i .gone) home0 k).S,R0:=(sitC (g.put i .gone) home0 k).R0 } _ a w
    rw [e2];exact H
theorem Lh.closeE {s:Sit} {h:Nat} {w:World} (ok:s.Ok) (hd0:s.d=0) {a a':Goroutine} {j c k:Nat} {z:Value} {okr:Bool} {home:Goroutine→Prop} {r':Role} {S':Loc→Prop} (hjh:j≠h) (hjn:j < s.n) (hj:s.R0 j=.seat c z okr home) (hat:AtClose P (h == 0) c a a')
    (hc:w.heap[c]?=some (.chan 0 #[] false k k false)) (B:∃ nh,Becomes P s h w a' r' S' nh)
    (H:∀ g₂,home g₂→Lh P Post { s with S:=fun g=>if g=h then S' else s.S g,R0:=upd (upd s.R0 h r') j .leave } j (Go.Conc.served g₂ (recvd okr z false)) (w.setChan c 0 #[] true k k false)):Lh P Post s h a w:=by
  obtain ⟨nh,B⟩:=B
  exact Lh.close ok hd0 hjh hjn hj hat hc B H
def Gm.chan (g:Gm) (x:Nat):Prop:=∃ p∈g.ws,x=p.1.turn∨x=p.1.back
structure WOk (C:Cli) (ty pty:TypeId) (n0 gb:Nat) (P:Program) (Post:Value→World→Prop) (Γ:C.G) (dead:Prop) (i:Nat) (p:Wk × St) (w:World):Prop where
  back:∃ n,w.heap[p.1.back]?=some (.chan 0 #[] false n n false)
  turn:∃ cl n,w.heap[p.1.turn]?=some (.chan 0 #[] cl n n false)
  st:match p.2 with
    | .sits home fb=>(∃ kd,C.stand (C.own i Γ)=some kd∧WkAt ty p.1 kd true false false w)∧(∃ n,w.heap[p.1.turn]?=some (.chan 0 #[] false n n false))∧BoxAt pty p.1 fb w∧home=Home C ty pty n0 gb i p.1 P Post fb (C.own i Γ)
    | .done=>(¬ dead∧C.stand (C.own i Γ)=none∧∃ kd ov,WkAt ty p.1 kd false ov (C.pan (C.own i Γ)) w)∨(dead∧∃ kd ov pn,WkAt ty p.1 kd true ov pn w)
    | .gone=>False
def Gm.box (g:Gm) (x:Nat):Prop:=∃ p∈g.ws,∃ home,p.2=.sits home x
structure Main (C:Cli) (ty pty:TypeId) (P:Program) (Post:Value→World→Prop) (gm:Gm) (Γ:C.G) (keep:Nat→Prop) (dead:Nat→Prop) (w:World):Prop where
  wf:gm.Wf
  K:gm.K w
  M:C.M Γ w
  hid:HidOk gm.H w
  Hfoot:∀ x,gm.H x→¬ C.foot Γ x
  chfoot:∀ x,gm.chan x→¬ C.foot Γ x
  bxfoot:∀ x,gm.box x→¬ C.foot Γ x∧¬ gm.H x
  kpfoot:∀ x,keep x→¬ C.foot Γ x∧¬ gm.H x∧¬ gm.chan x∧x < w.heap.size
  ws:∀ (i:Nat) (p:Wk × St),gm.ws[i]?=some p→WOk C ty pty gm.n0 gm.gb P Post Γ (dead i) i p w
end
end Go.Proofs.Ytndppafplgilbaa
namespace Go.Proofs.Ytndppafplgilbaa
open Go Go.Conc
open Go.ConcN (sumTo upd sumTo_upd upd_ne upd_same)
section
variable {C:Cli} {ty pty:TypeId} {P:Program} {Post:Value→World→Prop} {gm:Gm} {Γ:C.G} {keep dead:Nat→Prop} {w:World} {i:Nat} {k:Wk} {home:Goroutine→Prop} {fb:Nat}
theorem Gm.Wf.chanH (W:gm.Wf) {x:Nat} (hx:gm.chan x):¬ gm.H x:=by
  obtain ⟨p,hp,hx⟩:=hx
  obtain ⟨j,hj,e⟩:=List.getElem_of_mem hp
  have hj':gm.ws[j]?=some p:=by rw [List.getElem?_eq_getElem hj,e]
  rintro (h | h | ⟨q,hq,h⟩)
  · rcases hx with rfl | rfl
    · exact (W.blk p hp).2.1 h
    · exact (W.blk p hp).2.2.1 h
  · have:=(W.old x h).2 p hp
    rcases hx with rfl | rfl
    · exact this (by simp [Wk.nums])
    · exact this (by simp [Wk.nums])
  · have:=W.chanK hj' hx hq
    rcases h with h | h
    · exact this.1 h
    · exact this.2 h
def gstOf (gm:Gm) (i:Nat) (Γ:C.G) (keep:Nat→Prop) (w1:World) (home0:Goroutine→Prop) (kd:Int):Gst C :=
  { gm:=gm.put i .gone,Γ:=Γ,kp:=fun x=>keep x∨gm.chan x∨gm.box x,w0:=w1,home0:=home0,kd:=kd,stn:=true,pn:=false,bx:=fun _=>True }
theorem setChan_size (w:World) (c cap:Nat) (buf:Array Value) (cl:Bool) (a b:Nat) (tm:Bool):(w.setChan c cap buf cl a b tm).heap.size=w.heap.size:=by simp [World.setChan]
theorem Main.kplow (MW:Main C ty pty P Post gm Γ keep dead w) {x:Nat} (hx:keep x∨gm.chan x∨gm.box x):x < w.heap.size:=by
  rcases hx with hx | ⟨p,hp,hx⟩ | ⟨p,hp,home,e⟩
  · exact (MW.kpfoot x hx).2.2.2
  · obtain ⟨j,hj,e⟩:=List.getElem_of_mem hp
    have hW:=MW.ws j p (by rw [List.getElem?_eq_getElem hj,e])
    rcases hx with rfl | rfl
    · obtain ⟨_,_,h⟩:=hW.turn;exact (Array.getElem?_eq_some_iff.1 h).1
    · obtain ⟨_,h⟩:=hW.back;exact (Array.getElem?_eq_some_iff.1 h).1
  · obtain ⟨j,hj,e'⟩:=List.getElem_of_mem hp
    have hW:=(MW.ws j p (by rw [List.getElem?_eq_getElem hj,e'])).st
    rw [e] at hW
    exact (Array.getElem?_eq_some_iff.1 hW.2.2.1).1
structure MainX (C:Cli) (ty pty:TypeId) (P:Program) (Post:Value→World→Prop) (gm:Gm) (Γ:C.G) (keep:Nat→Prop) (dead:Nat→Prop) (w:World) (i:Nat):Prop where
  wf:gm.Wf
  K:gm.K w
  M:C.M Γ w
  hid:HidOk gm.H w
  Hfoot:∀ x,gm.H x→¬ C.foot Γ x
  chfoot:∀ x,gm.chan x→¬ C.foot Γ x
  bxfoot:∀ x,gm.box x→¬ C.foot Γ x∧¬ gm.H x
  kpfoot:∀ x,keep x→¬ C.foot Γ x∧¬ gm.H x∧¬ gm.chan x∧x < w.heap.size
  ws:∀ (j:Nat) (p:Wk × St),j≠i→gm.ws[j]?=some p→WOk C ty pty gm.n0 gm.gb P Post Γ (dead j) j p w
  chI:∀ (p:Wk × St),gm.ws[i]?=some p→(∃ n,w.heap[p.1.back]?=some (.chan 0 #[] false n n false))∧(∃ cl n,w.heap[p.1.turn]?=some (.chan 0 #[] cl n n false))∧∀ home fb,p.2=.sits home fb→fb < w.heap.size
theorem Main.toX (MW:Main C ty pty P Post gm Γ keep dead w) (i:Nat):MainX C ty pty P Post gm Γ keep dead w i :=
  ⟨MW.wf,MW.K,MW.M,MW.hid,MW.Hfoot,MW.chfoot,MW.bxfoot,MW.kpfoot,fun j p _ h=>MW.ws j p h,fun p hp=>⟨(MW.ws i p hp).back,(MW.ws i p hp).turn,fun home fb e=>by
    have W:=(MW.ws i p hp).st
    rw [e] at W
    exact (Array.getElem?_eq_some_iff.1 W.2.2.1).1⟩⟩
theorem MainX.kplow (MW:MainX C ty pty P Post gm Γ keep dead w i) {x:Nat} (hx:keep x∨gm.chan x∨gm.box x):x < w.heap.size:=by
  rcases hx with hx | ⟨p,hp,hx⟩ | ⟨p,hp,home,e⟩
  · exact (MW.kpfoot x hx).2.2.2
  · obtain ⟨j,hj,e⟩:=List.getElem_of_mem hp
    have hj':gm.ws[j]?=some p:=by rw [List.getElem?_eq_getElem hj,e]
    have hW:(∃ n,w.heap[p.1.back]?=some (.chan 0 #[] false n n false))∧(∃ cl n,w.heap[p.1.turn]?=some (.chan 0 #[] cl n n false)):=by
      by_cases ej:j=i
      · subst ej;exact ⟨(MW.chI p hj').1,(MW.chI p hj').2.1⟩
      · exact ⟨(MW.ws j p ej hj').back,(MW.ws j p ej hj').turn⟩
    rcases hx with rfl | rfl
    · obtain ⟨_,_,h⟩:=hW.2;exact (Array.getElem?_eq_some_iff.1 h).1
    · obtain ⟨_,h⟩:=hW.1;exact (Array.getElem?_eq_some_iff.1 h).1
  · obtain ⟨j,hj,e'⟩:=List.getElem_of_mem hp
    have hj':gm.ws[j]?=some p:=by rw [List.getElem?_eq_getElem hj,e']
    by_cases ej:j=i
    · subst ej;exact (MW.chI p hj').2.2 home x e
    · have hW:=(MW.ws j p ej hj').st
      rw [e] at hW
      exact (Array.getElem?_eq_some_iff.1 hW.2.2.1).1
theorem Main.ready (MW:Main C ty pty P Post gm Γ keep dead w) (hi:gm.ws[i]?=some (k,.sits home fb)) {n:Nat} (hT:w.heap[k.turn]?=some (.chan 0 #[] false n n false)) {kd:Int} (hwk:WkAt ty k kd true false false w) (hbx:BoxAt pty k fb w) (home0:Goroutine→Prop) (cl:Bool) (n':Nat) :
    Ready C ty pty gm.n0 gm.gb i k fb (gstOf (C:=C) gm i Γ keep (w.setChan k.turn 0 #[] cl n' n' false) home0 kd) (w.setChan k.turn 0 #[] cl n' n' false):=by
  have hmem:=Gm.at hi
  have hcT:gm.chan k.turn:=⟨_,hmem,.inl rfl⟩
  have hcB:gm.chan k.back:=⟨_,hmem,.inr rfl⟩
  have hbox:gm.box fb:=⟨_,hmem,home,rfl⟩
  have hself:=MW.wf.self _ hmem
  have hne:∀ x,x≠k.turn→(w.setChan k.turn 0 #[] cl n' n' false).heap[x]?=w.heap[x]?:=fun x hx=>heap_setChan_ne w _ _ _ _ _ _ (fun e=>hx e.symm)
  have hHne:∀ x,gm.H x→x≠k.turn:=fun x hx e=>MW.wf.chanH hcT (e ▸ hx)
  have hHe:(gm.put i .gone).H=gm.H:=put_H _ _ _
  have hHid:HidOk gm.H (w.setChan k.turn 0 #[] cl n' n' false):=fun x hx=>by
    obtain ⟨c,e,h1,h2⟩:=MW.hid x hx
    exact ⟨c,e,(hne x (hHne x hx)).trans h1,h2⟩
  have hM:C.M Γ (w.setChan k.turn 0 #[] cl n' n' false):=C.stable _ _ _ MW.M fun x hx=>hne x fun e=>MW.chfoot _ hcT (e ▸ hx)
  obtain ⟨nB,hB⟩:=(MW.ws i _ hi).back
  refine ⟨⟨put_at hi .gone,rfl,rfl,rfl,put_wf MW.wf i .gone,fun x hx=>?_,fun x hx=>?_,fun x hx=>?_,fun x hx=>?_,fun x hx=>?_,⟨hM,fun x hx=>.inl hx,fun x hx=>rfl,⟨_,RW.refl,fun _ _ _=>rfl⟩,?_,Nat.le_refl _⟩,(hne _ hself.1).trans hwk,⟨.inr (.inl hcT),cl,n',heap_setChan_self w hT _ _ _ _ _ _⟩,⟨.inr (.inl hcB),nB,(hne _ (fun e=>hself.2.2.2.1 e.symm)).trans hB⟩⟩,rfl,⟨.inr (.inr hbox),?_⟩,.inr trivial⟩
  · show x < (w.setChan k.turn 0 #[] cl n' n' false).heap.size
    rw [setChan_size];exact MW.kplow hx
  · rcases hx with hx | hx | hx
    · exact (MW.kpfoot x hx).1
    · exact MW.chfoot x hx
    · exact (MW.bxfoot x hx).1
  · show ¬ (gm.put i .gone).H x
    rw [hHe]
    rcases hx with hx | hx | hx
    · exact (MW.kpfoot x hx).2.1
    · exact MW.wf.chanH hx
    · exact (MW.bxfoot x hx).2
  · show x < (w.setChan k.turn 0 #[] cl n' n' false).heap.size
    have hx:(gm.put i .gone).H x:=hx
    rw [hHe] at hx
    obtain ⟨c,e,h1,h2⟩:=MW.hid x hx
    rw [setChan_size];exact (Array.getElem?_eq_some_iff.1 h1).1
  · have hx:(gm.put i .gone).H x:=hx
    rw [hHe] at hx
    exact MW.Hfoot x hx
  · show HidOk (gm.put i .gone).H _
    rw [hHe];exact hHid
  · refine (hne fb (fun e=>?_)).trans hbx
    have hbx':w.heap[fb]?=some (.cells #[.pointer (some (c0 k.blk 0))] pty (0,0)):=hbx
    rw [e,hT] at hbx';cases hbx'
theorem put_chan {g:Gm} {i:Nat} {st:St} {x:Nat}:(g.put i st).chan x ↔ g.chan x:=by
  constructor
  · rintro ⟨p,hp,hx⟩
    obtain ⟨q,hq,e⟩:=put_mem hp
    exact ⟨q,hq,by rw [e];exact hx⟩
  · rintro ⟨p,hp,hx⟩
    obtain ⟨q,hq,e⟩:=mem_put (i:=i) (st:=st) hp
    exact ⟨q,hq,by rw [e];exact hx⟩
def CameBack (C:Cli) (ty pty:TypeId) (P:Program) (Post:Value→World→Prop) (gm:Gm) (i:Nat) (k:Wk) (Γ':C.G) (b:Bool) (st':St) (w₂:World):Prop :=
  (b=true∧∃ fb' kd,st'=.sits (Home C ty pty gm.n0 gm.gb i k P Post fb' (C.own i Γ')) fb'∧C.stand (C.own i Γ')=some kd∧WkAt ty k kd true false false w₂∧BoxAt pty k fb' w₂∧¬ C.foot Γ' fb'∧¬ gm.H fb') ∨
  (b=false∧st'=.done∧C.stand (C.own i Γ')=none∧∃ kd ov,WkAt ty k kd true ov (C.pan (C.own i Γ')) w₂)
theorem MainX.back0 {st0:St} (MW:MainX C ty pty P Post gm Γ keep dead w i) (hi:gm.ws[i]?=some (k,st0)) {n n' nB:Nat} {cl:Bool} (hT:w.heap[k.turn]?=some (.chan 0 #[] false n n false)) {home0:Goroutine→Prop} {kd:Int} {w₂ w'':World} {Γ':C.G} {dead':Nat→Prop} {st':St}
    (D:Did C gm.gb k (gstOf gm i Γ keep (w.setChan k.turn 0 #[] cl n' n' false) home0 kd) Γ' w₂) (hown':∀ j,j≠i→C.own j Γ'=C.own j Γ) (hB:w₂.heap[k.back]?=some (.chan 0 #[] false nB nB false))
    (hne:∀ x,x≠k.back→x≠k.blk→w''.heap[x]?=w₂.heap[x]?) (hsz:w''.heap.size=w₂.heap.size) (hback:w''.heap[k.back]?=some (.chan 0 #[] false (nB + 1) (nB + 1) false)) (hown:∃ kd' stn ov pn,WkAt ty k kd' stn ov pn w'') (hdead:∀ j,j≠i→(dead' j ↔ dead j))
    (hnew:∀ hm x,st'=.sits hm x→¬ C.foot Γ' x∧¬ gm.H x) (hWk:w''.heap[k.turn]?=some (.chan 0 #[] cl n' n' false)→WOk C ty pty gm.n0 gm.gb P Post Γ' (dead' i) i (k,st') w'') :
    Main C ty pty P Post (gm.put i st') Γ' keep dead' w''∧(∀ x,keep x→w''.heap[x]?=w.heap[x]?)∧(∃ wr,RW (c0 gm.gb 1) w wr∧w''.heap[gm.gb]?=wr.heap[gm.gb]?)∧w.heap.size≤w''.heap.size:=by
  have hmem:=Gm.at hi
  have hcT:gm.chan k.turn:=⟨_,hmem,.inl rfl⟩
  have hcB:gm.chan k.back:=⟨_,hmem,.inr rfl⟩
  have hself:=MW.wf.self _ hmem
  have hblk0:=MW.wf.blk _ hmem
  have hkH:gm.H k.blk:=.inr (.inr ⟨_,hmem,.inl rfl⟩)
  have hchH:∀ x,gm.chan x→¬ gm.H x:=fun x hx=>MW.wf.chanH hx
  have h1ne:∀ x,x≠k.turn→(w.setChan k.turn 0 #[] cl n' n' false).heap[x]?=w.heap[x]?:=fun x hx=>heap_setChan_ne w _ _ _ _ _ _ (fun e=>hx e.symm)
  have hsz2:w.heap.size≤w₂.heap.size:=by have:=D.size;simp only [gstOf] at this;rwa [setChan_size] at this
  have hgrow:∀ x,C.foot Γ' x→C.foot Γ x∨w.heap.size≤x:=fun x hx=>by
    rcases D.grow x hx with h | h
    · exact .inl h
    · simp only [gstOf] at h;rw [setChan_size] at h;exact .inr h
  have hnof:∀ x,x < w.heap.size→¬ C.foot Γ x→¬ C.foot Γ' x:=fun x h1 h2 h3=>by
    rcases hgrow x h3 with h | h
    · exact h2 h
    · omega
  have hkp:∀ x,(keep x∨gm.chan x∨gm.box x)→x≠k.turn→w₂.heap[x]?=w.heap[x]?:=fun x hx hxT=>(D.kp x hx).trans (h1ne x hxT)
  have hHlt:∀ x,gm.H x→x < w.heap.size:=fun x hx=>by
    obtain ⟨c,e,h1,h2⟩:=MW.hid x hx
    exact (Array.getElem?_eq_some_iff.1 h1).1
  have hHT:∀ x,gm.H x→x≠k.turn:=fun x hx e=>hchH _ hcT (e ▸ hx)
  have hHB:∀ x,gm.H x→x≠k.back:=fun x hx e=>hchH _ hcB (e ▸ hx)
  have hhid:∀ x,gm.H x→x≠k.blk→x≠gm.gb→w₂.heap[x]?=w.heap[x]?:=fun x hx h1 h2=>by
    obtain ⟨wr,r,h⟩:=D.hid
    have hx':(gm.put i .gone).H x:=by rw [put_H];exact hx
    rw [h x hx' h1,rw_heap r h2]
    exact h1ne x (hHT x hx)
  have hoth:∀ j q,gm.ws[j]?=some q→j≠i→w''.heap[q.1.blk]?=w.heap[q.1.blk]?∧w''.heap[q.1.turn]?=w.heap[q.1.turn]?∧w''.heap[q.1.back]?=w.heap[q.1.back]?:=fun j q hj hij=>by
    have ho:=MW.wf.other j i q _ hj hi hij
    have hqm:=Gm.at hj
    have h1:=MW.wf.chanK hi (.inr rfl) hqm
    have a1:q.1.blk≠k.blk:=fun e=>ho q.1.blk (by simp [Wk.nums]) (by rw [e];simp [Wk.nums])
    have a2:q.1.turn≠k.turn:=fun e=>ho q.1.turn (by simp [Wk.nums]) (by rw [e];simp [Wk.nums])
    have a3:q.1.turn≠k.back:=fun e=>ho q.1.turn (by simp [Wk.nums]) (by rw [e];simp [Wk.nums])
    have a4:q.1.back≠k.back:=fun e=>ho q.1.back (by simp [Wk.nums]) (by rw [e];simp [Wk.nums])
    have a5:q.1.back≠k.turn:=fun e=>ho q.1.back (by simp [Wk.nums]) (by rw [e];simp [Wk.nums])
    have b1:gm.chan q.1.turn:=⟨q,hqm,.inl rfl⟩
    have b2:gm.chan q.1.back:=⟨q,hqm,.inr rfl⟩
    have hqH:gm.H q.1.blk:=.inr (.inr ⟨q,hqm,.inl rfl⟩)
    refine ⟨(hne _ (hHB _ hqH) a1).trans (hhid _ hqH a1 (MW.wf.blk q hqm).1),(hne _ a3 (fun e=>hchH _ b1 (e ▸ hkH))).trans (hkp _ (.inr (.inl b1)) a2),(hne _ a4 (fun e=>hchH _ b2 (e ▸ hkH))).trans (hkp _ (.inr (.inl b2)) a5)⟩
  have hvar:∀ (j:Nat) (q:Wk × St),gm.ws[j]?=some q→w''.heap[q.1.var]?=w.heap[q.1.var]?:=fun j q hj=>by
    have hqm:=Gm.at hj
    have hqH:gm.H q.1.var:=.inr (.inr ⟨q,hqm,.inr rfl⟩)
    have a1:q.1.var≠k.blk:=by
      by_cases e:j=i
      · subst e;rw [hi] at hj;cases hj;exact fun e=>hself.2.2.1 e.symm
      · exact fun e'=>MW.wf.other j i q _ hj hi e q.1.var (by simp [Wk.nums]) (by rw [e'];simp [Wk.nums])
    exact (hne _ (hHB _ hqH) a1).trans (hhid _ hqH a1 (MW.wf.blk q hqm).2.2.2)
  have hturn:w''.heap[k.turn]?=some (.chan 0 #[] cl n' n' false):=by
    rw [hne _ hself.2.2.2.1 (fun e=>hHT _ hkH e.symm),D.kp k.turn (.inr (.inl hcT))]
    exact heap_setChan_self w hT _ _ _ _ _ _
  have hfH:∀ x,gm.H x→¬ C.foot Γ' x:=fun x hx=>hnof x (hHlt x hx) (MW.Hfoot x hx)
  have hchf:∀ x,gm.chan x→¬ C.foot Γ' x:=fun x hx=>hnof x (MW.kplow (.inr (.inl hx))) (MW.chfoot x hx)
  have hkeep:∀ x,keep x→w''.heap[x]?=w.heap[x]?:=fun x hx=>by
    have h:=(MW.kpfoot x hx).2
    have hT':x≠k.turn:=fun e=>h.2.1 (e ▸ hcT)
    have hB':x≠k.back:=fun e=>h.2.1 (e ▸ hcB)
    exact (hne x hB' (fun e=>h.1 (e ▸ hkH))).trans (hkp x (.inl hx) hT')
  have hbx:∀ x kk ff,gm.box x→w.heap[x]?=some (.cells kk pty ff)→w''.heap[x]?=w.heap[x]?:=fun x kk ff hx hc=>by
    have h:=MW.bxfoot x hx
    have hT':x≠k.turn:=fun e=>by rw [e,hT] at hc;cases hc
    have h2:=hkp x (.inr (.inr hx)) hT'
    have hB':x≠k.back:=fun e=>by rw [← h2,e,hB] at hc;cases hc
    exact (hne x hB' (fun e=>h.2 (e ▸ hkH))).trans h2
  refine ⟨⟨put_wf MW.wf i st',?_,?_,?_,fun x hx=>?_,fun x hx=>?_,fun x hx=>?_,fun x hx=>?_,fun j q hj=>?_⟩,hkeep,?_,by rw [hsz];exact hsz2⟩
  · rw [put_K]
    intro q hq
    obtain ⟨j,hj,e⟩:=List.getElem_of_mem hq
    have hj':gm.ws[j]?=some q:=by rw [List.getElem?_eq_getElem hj,e]
    have hk0:=MW.K q hq
    have e3:w''.cell? (c0 q.1.var 0)=w.cell? (c0 q.1.var 0):=by
      unfold World.cell?
      rw [show (c0 q.1.var 0).block=q.1.var from rfl,hvar j q hj']
    by_cases eji:j=i
    · subst eji
      rw [hi] at hj';cases hj'
      obtain ⟨kd',stn,ov,pn,h⟩:=hown
      exact ⟨h.cell 0,h.cell 1,e3.trans hk0.2.2⟩
    · have e1:∀ o,w''.cell? (c0 q.1.blk o)=w.cell? (c0 q.1.blk o):=fun o=>by
        unfold World.cell?
        rw [show (c0 q.1.blk o).block=q.1.blk from rfl,(hoth j q hj' eji).1]
      exact ⟨(e1 0).trans hk0.1,(e1 1).trans hk0.2.1,e3.trans hk0.2.2⟩
  · exact C.stable _ _ _ D.M fun x hx=>hne x (fun e=>hchf _ hcB (e ▸ hx)) (fun e=>hfH _ hkH (e ▸ hx))
  · rw [put_H]
    intro x hx
    by_cases ex:x=k.blk
    · subst ex
      obtain ⟨kd',stn,ov,pn,h⟩:=hown
      exact ⟨_,_,h,by simp⟩
    · obtain ⟨c,e,h1,h2⟩:=D.hidOk x (show (gm.put i .gone).H x by rw [put_H];exact hx)
      exact ⟨c,e,(hne x (hHB x hx) ex).trans h1,h2⟩
  · rw [put_H] at hx
    exact hfH x hx
  · exact hchf x (put_chan.1 hx)
  · rw [put_H]
    obtain ⟨q,hq,hm,e⟩:=hx
    obtain ⟨j,hj,e'⟩:=List.getElem_of_mem hq
    have hj':(gm.put i st').ws[j]?=some q:=by rw [List.getElem?_eq_getElem hj,e']
    by_cases eji:i=j
    · subst eji
      rw [put_at hi] at hj'
      cases hj'
      simp only at e
      exact hnew hm x e
    · rw [put_ne eji] at hj'
      have hb:gm.box x:=⟨q,Gm.at hj',hm,e⟩
      exact ⟨hnof x (MW.kplow (.inr (.inr hb))) (MW.bxfoot x hb).1,(MW.bxfoot x hb).2⟩
  · rw [put_H]
    have h:=MW.kpfoot x hx
    exact ⟨hnof x h.2.2.2 h.1,h.2.1,fun hc=>h.2.2.1 (put_chan.1 hc),by rw [hsz];omega⟩
  · by_cases eji:i=j
    · subst eji
      rw [put_at hi] at hj
      cases hj
      exact hWk hturn
    · rw [put_ne eji] at hj
      have W:=MW.ws j q (fun e=>eji e.symm) hj
      obtain ⟨o1,o2,o3⟩:=hoth j q hj (fun e=>eji e.symm)
      refine ⟨?_,?_,?_⟩
      · obtain ⟨m,h⟩:=W.back;exact ⟨m,o3.trans h⟩
      · obtain ⟨cl,m,h⟩:=W.turn;exact ⟨cl,m,o2.trans h⟩
      · have Ws:=W.st
        have eo:C.own j Γ'=C.own j Γ:=hown' j (fun e=>eji e.symm)
        have ed:=hdead j (fun e=>eji e.symm)
        obtain ⟨kq,sq⟩:=q
        cases sq with
        | sits hm fq =>
          obtain ⟨⟨kd',h1,h2⟩,⟨m,h3⟩,h4,h5⟩:=Ws
          refine ⟨⟨kd',by rw [eo];exact h1,o1.trans h2⟩,⟨m,o2.trans h3⟩,?_,by rw [eo];exact h5⟩
          exact (hbx fq _ _ ⟨_,Gm.at hj,hm,rfl⟩ h4).trans h4
        | done =>
          rcases Ws with ⟨h0,h1,kd',ov,h2⟩ | ⟨h0,kd',ov,pn,h2⟩
          · exact .inl ⟨fun h=>h0 (ed.1 h),by rw [eo];exact h1,kd',ov,by rw [eo];exact o1.trans h2⟩
          · exact .inr ⟨ed.2 h0,kd',ov,pn,o1.trans h2⟩
        | gone=>exact Ws
  · obtain ⟨wr,r,h⟩:=D.hid
    have hg:gm.H gm.gb:=.inl rfl
    have hgk:gm.gb≠k.blk:=fun e=>hblk0.1 e.symm
    have hx':(gm.put i .gone).H gm.gb:=by rw [put_H];exact hg
    have r:RW (c0 gm.gb 1) (w.setChan k.turn 0 #[] cl n' n' false) wr:=r
    have h6:(w.setChan k.turn 0 #[] cl n' n' false).heap[gm.gb]?=w.heap[gm.gb]?:=h1ne _ (hHT _ hg)
    have e1:w''.heap[gm.gb]?=wr.heap[gm.gb]?:=(hne _ (hHB _ hg) hgk).trans (h _ hx' hgk)
    rcases r with ⟨d,rfl⟩ | ⟨a,a₁,d,h3,h4,rfl⟩
    · exact ⟨w,RW.refl,e1.trans h6⟩
    · obtain ⟨c,e,f,h7,h8,h9⟩:=cell_some h3
      have h7':w.heap[gm.gb]?=some (.cells c e f):=h6.symm.trans h7
      have h10:w.cell? (c0 gm.gb 1)=some (.int .u64 (a * 4294967296:Nat)):=by rw [cell_of (show w.heap[(c0 gm.gb 1).block]?=_ from h7') rfl];exact h9
      refine ⟨_,.inr ⟨a,a₁,d,h10,h4,rfl⟩,e1.trans ?_⟩
      show ((w.setChan k.turn 0 #[] cl n' n' false).setCell (c0 gm.gb 1) _).heap[gm.gb]?=(w.setCell (c0 gm.gb 1) _).heap[gm.gb]?
      rw [setCell_self (a:=c0 gm.gb 1) _ (show (w.setChan k.turn 0 #[] cl n' n' false).heap[(c0 gm.gb 1).block]?=_ from h7) rfl,setCell_self (a:=c0 gm.gb 1) _ (show w.heap[(c0 gm.gb 1).block]?=_ from h7') rfl]
theorem Main.back {Γ':C.G} (nx:C.next i Γ Γ') (MW:Main C ty pty P Post gm Γ keep dead w) (hnd:¬ dead i) (hi:gm.ws[i]?=some (k,.sits home fb)) {n nB:Nat} (hT:w.heap[k.turn]?=some (.chan 0 #[] false n n false)) {home0:Goroutine→Prop} {kd:Int} {w₂:World}
    (D:Did C gm.gb k (gstOf gm i Γ keep (w.setChan k.turn 0 #[] false (n + 1) (n + 1) false) home0 kd) Γ' w₂) (hB:w₂.heap[k.back]?=some (.chan 0 #[] false nB nB false)) {b:Bool} {st':St} (hst:CameBack C ty pty P Post gm i k Γ' b st' w₂) {w'':World}
    (hw:w''=(w₂.setChan k.back 0 #[] false (nB + 1) (nB + 1) false).setCell (c0 k.blk 3) (.bool b)) :
    Main C ty pty P Post (gm.put i st') Γ' keep dead w''∧(∀ x,keep x→w''.heap[x]?=w.heap[x]?)∧(∃ wr,RW (c0 gm.gb 1) w wr∧w''.heap[gm.gb]?=wr.heap[gm.gb]?)∧w.heap.size≤w''.heap.size:=by
  have hmem:=Gm.at hi
  have hself:=MW.wf.self _ hmem
  have hkH:gm.H k.blk:=.inr (.inr ⟨_,hmem,.inl rfl⟩)
  have hkb:k.back≠k.blk:=fun e=>hself.2.1 e.symm
  have hne:∀ x,x≠k.back→x≠k.blk→w''.heap[x]?=w₂.heap[x]?:=fun x h1 h2=>by
    rw [hw,setCell_ne _ (c0 k.blk 3) _ h2,heap_setChan_ne w₂ _ _ _ _ _ _ (fun e=>h1 e.symm)]
  have hback:w''.heap[k.back]?=some (.chan 0 #[] false (nB + 1) (nB + 1) false):=by
    rw [hw,setCell_ne _ (c0 k.blk 3) _ hkb]
    exact heap_setChan_self w₂ hB _ _ _ _ _ _
  have hwk3:∀ kd' ov pn,WkAt ty k kd' true ov pn w₂→WkAt ty k kd' b ov pn w'':=fun kd' ov pn h=>by
    rw [hw]
    refine WkAt.stands (stn:=true) ?_
    exact (heap_setChan_ne w₂ _ _ _ _ _ _ hkb).trans h
  refine MainX.back0 (MW.toX i) hi hT D (fun j hj=>C.other j i Γ Γ' hj nx) hB hne (by rw [hw,setCell_size,setChan_size]) hback ?_ (fun _ _=>Iff.rfl) (fun hm x e=>?_) fun hturn=>⟨⟨_,hback⟩,⟨_,_,hturn⟩,?_⟩
  · rcases hst with ⟨rfl,fb',kd',_,_,h,_⟩ | ⟨rfl,_,_,kd',ov,h⟩
    · exact ⟨_,_,_,_,hwk3 _ _ _ h⟩
    · exact ⟨_,_,_,_,hwk3 _ _ _ h⟩
  · rcases hst with ⟨_,fb',kd',h,_,_,_,h1,h2⟩ | ⟨_,h,_⟩
    · rw [h] at e;cases e;exact ⟨h1,h2⟩
    · rw [h] at e;cases e
  · rcases hst with ⟨rfl,fb',kd',rfl,h1,h2,h3,h4,h5⟩ | ⟨rfl,rfl,h1,kd',ov,h2⟩
    · refine ⟨⟨kd',h1,hwk3 _ _ _ h2⟩,⟨_,hturn⟩,?_,rfl⟩
      have h3':w₂.heap[fb']?=some (.cells #[.pointer (some (c0 k.blk 0))] pty (0,0)):=h3
      exact (hne fb' (fun e=>by rw [e,hB] at h3';cases h3') (fun e=>h5 (e ▸ hkH))).trans h3
    · exact .inl ⟨hnd,h1,kd',ov,hwk3 _ _ _ h2⟩
theorem Main.ended (MW:Main C ty pty P Post gm Γ keep dead w) (hi:gm.ws[i]?=some (k,.sits home fb)) {n nB:Nat} (hT:w.heap[k.turn]?=some (.chan 0 #[] false n n false)) {home0:Goroutine→Prop} {kd:Int} {w₂:World}
    (D:Did C gm.gb k (gstOf gm i Γ keep (w.setChan k.turn 0 #[] true n n false) home0 kd) Γ w₂) (hB:w₂.heap[k.back]?=some (.chan 0 #[] false nB nB false)) {kd':Int} {ov pn:Bool} (hwk:WkAt ty k kd' true ov pn w₂) {w'':World} (hw:w''=w₂.setChan k.back 0 #[] false (nB + 1) (nB + 1) false) :
    Main C ty pty P Post (gm.put i .done) Γ keep (fun j=>dead j∨j=i) w''∧(∀ x,keep x→w''.heap[x]?=w.heap[x]?)∧(∃ wr,RW (c0 gm.gb 1) w wr∧w''.heap[gm.gb]?=wr.heap[gm.gb]?)∧w.heap.size≤w''.heap.size:=by
  have hself:=MW.wf.self _ (Gm.at hi)
  have hkb:k.back≠k.blk:=fun e=>hself.2.1 e.symm
  have hwk':WkAt ty k kd' true ov pn w'':=by rw [hw];exact (heap_setChan_ne w₂ _ _ _ _ _ _ hkb).trans hwk
  have hback:w''.heap[k.back]?=some (.chan 0 #[] false (nB + 1) (nB + 1) false):=by rw [hw];exact heap_setChan_self w₂ hB _ _ _ _ _ _
  refine MainX.back0 (MW.toX i) hi hT D (fun _ _=>rfl) hB (fun x h1 _=>by rw [hw];exact heap_setChan_ne w₂ _ _ _ _ _ _ (fun e=>h1 e.symm)) (by rw [hw,setChan_size]) hback ⟨_,_,_,_,hwk'⟩ (fun j hj=>⟨fun h=>h.elim id (fun e=>absurd e hj),.inl⟩) (fun hm x e=>by cases e) fun hturn=>⟨⟨_,hback⟩,⟨_,_,hturn⟩,.inr ⟨.inr rfl,_,_,_,hwk'⟩⟩
end
end Go.Proofs.Ytndppafplgilbaa
namespace Go.Proofs.Ytndppafplgilbaa
open Go Go.Conc
open Go.ConcN (sumTo upd sumTo_upd upd_ne upd_same)
section
variable {P:Program} {Post:Value→World→Prop} {s:Sit} {g g':Goroutine} {w:World} {es:Array Event}
theorem rw_some {st:Addr} {w w₁:World} (r:RW st w w₁) {x:Value} (h:w.cell? st=some x):∃ y,w₁.cell? st=some y:=by
  rcases r with ⟨d,rfl⟩ | ⟨n,n₁,d,h1,h2,rfl⟩
  · exact ⟨x,h⟩
  · exact ⟨_,cell_set h1⟩
theorem Sit.Ok.deaf (ok:s.Ok) (d:Nat):({ s with d:=d }:Sit).Ok:=⟨ok.Kat,ok.Kst,ok.Kc,ok.stc⟩
theorem LM.mark (hr:g.status=.running) (hm:∀ e∈es,(MemAct.ofEvent e).touch?=none) (hc:∃ x,w.cell? s.st=some x) (h:∀ w x,w.cell? s.st=some x→stepG P (0 == 0) g w=.go g' w es) (H:LM P Post { s with d:=deafBehind s.d es } g' w):LM P Post s g w:=fun ok=>by
  obtain ⟨x,hx⟩:=hc
  refine Lh.step ok hr fun w₁ r=>?_
  obtain ⟨y,hy⟩:=rw_some r hx
  exact ⟨g',w₁,es,h w₁ y hy,⟨id,fun _ _ _ _=>rfl,fun _=>⟨rfl,rfl⟩,fun e he b hb=>(by rw [hm e he] at hb;cases hb),Nat.le_refl _,fun e he b x hb=>(by rw [hm e he] at hb;cases hb),rfl,rfl⟩,(H (ok.deaf _)).rw r⟩
theorem LM.look (hr:g.status=.running) {n:Nat} (hn:w.cell? s.st=some (.int .u64 (n * 4294967296:Nat))) (g₁:Nat→Goroutine)
    (h:∀ w₁ (m:Nat),w₁.cell? s.st=some (.int .u64 (m * 4294967296:Nat))→stepG P (0 == 0) g w₁=.go (g₁ m) w₁ #[⟨.cell s.st,false,true⟩])
    (H:∀ m w₁,m≤n→RW s.st w w₁→w₁.cell? s.st=some (.int .u64 (m * 4294967296:Nat))→LM P Post s (g₁ m) w₁):LM P Post s g w:=fun ok=>by
  refine Lh.step ok hr fun w₁ r=>?_
  have hm:∃ m:Nat,m≤n∧w₁.cell? s.st=some (.int .u64 (m * 4294967296:Nat)):=by
    rcases r with ⟨d,rfl⟩ | ⟨a,a₁,d,h1,h2,rfl⟩
    · exact ⟨n,Nat.le_refl _,hn⟩
    · rw [hn] at h1
      injection h1 with h1
      injection h1 with _ h1
      exact ⟨a₁,by omega,cell_set hn⟩
  obtain ⟨m,hmn,hm⟩:=hm
  have hb:s.st.block < w₁.heap.size:=by
    obtain ⟨_,_,_,h3,_⟩:=cell_some hm
    exact (Array.getElem?_eq_some_iff.1 h3).1
  refine ⟨g₁ m,w₁,_,h w₁ m hm,⟨id,fun _ _ _ _=>rfl,fun _=>⟨rfl,rfl⟩,fun e he b hb'=>?_,Nat.le_refl _,fun e he b y hb' hy=>?_,rfl,rfl⟩,?_⟩
  · simp only [List.mem_toArray,List.mem_singleton] at he
    subst he
    simp only [ofEvent_cell0,MemAct.touch?,Option.some.injEq] at hb'
    subst hb'
    exact ⟨fun _ _ _ _=>rfl,fun _ h=>by cases h⟩
  · simp only [List.mem_toArray,List.mem_singleton] at he
    subst he
    simp only [ofEvent_cell0,MemAct.touch?,Option.some.injEq] at hb'
    subst hb'
    cases hy;exact hb
  · have e:deafBehind s.d #[(⟨.cell s.st,false,true⟩:Event)]=s.d:=deafBehind_still (fun e he=>by simp only [List.mem_toArray,List.mem_singleton] at he;subst he;simp) _
    rw [e]
    exact H m w₁ hmn r hm ok
end
end Go.Proofs.Ytndppafplgilbaa
namespace Go.Proofs.Ytndppafplgilbaa
open Go Go.Conc
open Go.ConcN (sumTo upd sumTo_upd upd_ne upd_same)
section
variable {P:Program} {Post:Value→World→Prop} {s:Sit} {h:Nat} {g:Goroutine} {w:World}
theorem alive_zero {A:Nat→Bool}:∀ {n:Nat},alive A n=0→∀ x,x < n→A x=false
  | 0,_,x,hx=>by omega
  | n + 1,h,x,hx=>by
    simp only [alive] at h
    by_cases e:x=n
    · subst e
      cases ha:A x with
      | false=>rfl
      | true=>rw [ha] at h;simp at h
    · exact alive_zero (n:=n) (by omega) x (by omega)
theorem Lh.zero (hspot:s.st.spot=none) (hl:∀ x,x≠h→s.R0 x=.done∨s.R0 x=.leave) (hbd:∀ i,s.n≤i→s.A0 i=false) (h0:w.cell? s.st=some (.int .u64 0))
    (H:Lh P Post { s with R0:=fun _=>.leave,A0:=fun _=>false } h g w):Lh P Post s h g w:=by
  rintro m T ⟨gs,sl,q,Rl,A,w₁,rfl,rw₁,hn,ha,C,sm,hd,hA1,hA2,hR⟩
  have hc:w₁.cell? s.st=some (.int .u64 0):=by
    rcases rw₁ with ⟨d,rfl⟩ | ⟨n,n₁,d,h1,h2,rfl⟩
    · exact h0
    · rw [h0] at h1
      injection h1 with h1
      injection h1 with _ h1
      have e:n₁=0:=by omega
      subst e
      exact cell_set h0
  have hal:alive A (gs.size + 1)=0:=by
    have:=(C.cell hspot).1
    rw [hc] at this
    injection this with this
    injection this with _ this
    omega
  have hAf:A=fun _=>false:=by
    funext x
    by_cases e:x < gs.size + 1
    · exact alive_zero hal x e
    · have e2:s.n≤x:=by omega
      exact (hA1 x (.inr (.inr e2))).trans (hbd x e2)
  have hRl:∀ x,x≠h→Rl x=.leave:=fun x hx=>by
    have hk:Rl x=.done∨Rl x=.leave:=by
      rcases sm.kind x with e | ⟨_,e⟩
      · rw [e];exact hl x hx
      · exact .inr e
    rcases hk with e | e
    · have:=(C.aliveD x hx e).1
      rw [hAf] at this;cases this
    · exact e
  have hMem:(fun g=>¬ g=h∧(Rl g).sits)=fun g=>¬ g=h∧((fun _=>Role.leave) g:Role).sits:=by
    funext x
    by_cases e:x=h
    · simp [e]
    · rw [hRl x e]
  refine H _ _ ⟨gs,sl,q,fun _=>.leave,A,w₁,rfl,rw₁,hn,ha,⟨fun x y hx hy=>?_,fun _ _ _ h=>h.elim,fun _ _ h=>h.elim,fun _ h=>h.elim,fun _ _ _ h=>h.elim,C.above,fun _ _ h=>(by cases h),?_,C.shun,C.keep,C.cell,C.few,C.low,fun _ _ h=>h.elim,fun x _ _ h=>(by rw [hAf] at h;cases h)⟩,Same.refl _,hd,fun x _=>by rw [hAf],fun x hx=>by rw [hAf] at hx;exact hx,fun _ _=>rfl⟩
  · have hi:=C.idle x y hx hy
    rw [hRl x hx] at hi
    exact hi
  · show PastW s.Shun s.S (fun g=>¬ g=h∧((fun _=>Role.leave) g:Role).sits) (fun g=>¬ g=h∧((fun _=>Role.leave) g:Role).sits) h T
    rw [← hMem];exact C.past
theorem Lh.fresh {K':World→Prop} {S':Nat→Loc→Prop} (hl:∀ x,x≠h→s.R0 x=.leave) (hK:∀ w₁,RW s.st w w₁→K' w₁) (H:Lh P Post { s with K:=K',S:=S',R0:=fun _=>.leave } h g w):Lh P Post s h g w:=by
  rintro m T ⟨gs,sl,q,Rl,A,w₁,rfl,rw₁,hn,ha,C,sm,hd,hA1,hA2,hR⟩
  have hRl:∀ x,x≠h→Rl x=.leave:=fun x hx=>by
    rcases sm.kind x with e | ⟨_,e⟩
    · rw [e];exact hl x hx
    · exact e
  have hMem:(fun g=>¬ g=h∧(Rl g).sits)=fun g=>¬ g=h∧((fun _=>Role.leave) g:Role).sits:=by
    funext x
    by_cases e:x=h
    · simp [e]
    · rw [hRl x e]
  refine H _ _ ⟨gs,sl,q,fun _=>.leave,A,w₁,rfl,rw₁,hn,ha,⟨fun x y hx hy=>?_,fun _ _ _ h=>h.elim,fun _ _ h=>h.elim,fun _ h=>h.elim,fun _ _ _ h=>h.elim,C.above,fun _ _ h=>(by cases h),?_,C.shun,⟨hK _ rw₁,C.keep.2⟩,C.cell,C.few,C.low,fun _ _ h=>h.elim,fun x h1 h2 h3=>absurd (hRl x h2) (C.aliveC x h1 h2 h3)⟩,Same.refl _,hd,fun x hx=>?_,hA2,fun _ _=>rfl⟩
  · have hi:=C.idle x y hx hy
    rw [hRl x hx] at hi
    exact hi
  · have hp:PastW s.Shun s.S (fun g=>¬ g=h∧((fun _=>Role.leave) g:Role).sits) (fun g=>¬ g=h∧((fun _=>Role.leave) g:Role).sits) h T:=by rw [← hMem];exact C.past
    exact hp.still fun x hx=>hx.2.elim
  · rcases hx with hx | hx | hx
    · exact hA1 x (.inl hx)
    · exact hx.elim
    · exact hA1 x (.inr (.inr hx))
end
end Go.Proofs.Ytndppafplgilbaa
namespace Go.Proofs.Ytndppafplgilbaa
open Go Go.Conc
open Go.ConcN (sumTo upd sumTo_upd upd_ne upd_same)
theorem setChan_same {w:World} {c cap p r:Nat} {buf:Array Value} {cl tm:Bool} (h:w.heap[c]?=some (.chan cap buf cl p r tm)):w.setChan c cap buf cl p r tm=w:=by
  have hh:(w.setChan c cap buf cl p r tm).heap=w.heap:=by
    apply Array.ext_getElem?
    intro k
    by_cases e:c=k
    · subst e;rw [heap_setChan_self w h];exact h.symm
    · exact heap_setChan_ne w _ _ _ _ _ _ e
  cases w
  simp only [World.setChan] at hh ⊢
  simp_all
section
variable {C:Cli} {ty pty:TypeId} {P:Program} {Post:Value→World→Prop} {gm:Gm} {Γ:C.G} {keep dead:Nat→Prop} {w:World} {i:Nat} {k:Wk}
def CameBackS (C:Cli) (ty pty:TypeId) (P:Program) (Post:Value→World→Prop) (gm:Gm) (i:Nat) (k:Wk) (Γ':C.G) (sb b:Bool) (st':St) (w₂:World):Prop :=
  (b=true∧∃ fb' kd,st'=.sits (Home C ty pty gm.n0 gm.gb i k P Post fb' (C.own i Γ')) fb'∧C.stand (C.own i Γ')=some kd∧WkAt ty k kd sb false false w₂∧BoxAt pty k fb' w₂∧¬ C.foot Γ' fb'∧¬ gm.H fb') ∨
  (b=false∧st'=.done∧C.stand (C.own i Γ')=none∧∃ kd ov,WkAt ty k kd sb ov (C.pan (C.own i Γ')) w₂)
theorem MainX.born {st0:St} {Γ':C.G} (nx:C.next i Γ Γ') (MW:MainX C ty pty P Post gm Γ keep dead w i) (hnd:¬ dead i) (hi:gm.ws[i]?=some (k,st0)) {n nB:Nat} (hT:w.heap[k.turn]?=some (.chan 0 #[] false n n false)) {home0:Goroutine→Prop} {kd:Int} {w₂:World}
    (D:Did C gm.gb k (gstOf gm i Γ keep w home0 kd) Γ' w₂) (hB:w₂.heap[k.back]?=some (.chan 0 #[] false nB nB false)) {sb b:Bool} {st':St} (hst:CameBackS C ty pty P Post gm i k Γ' sb b st' w₂) {w'':World}
    (hw:w''=(w₂.setChan k.back 0 #[] false (nB + 1) (nB + 1) false).setCell (c0 k.blk 3) (.bool b)) :
    Main C ty pty P Post (gm.put i st') Γ' keep dead w''∧(∀ x,keep x→w''.heap[x]?=w.heap[x]?)∧(∃ wr,RW (c0 gm.gb 1) w wr∧w''.heap[gm.gb]?=wr.heap[gm.gb]?)∧w.heap.size≤w''.heap.size:=by
  have hmem:=Gm.at hi
  have hself:=MW.wf.self _ hmem
  have hkH:gm.H k.blk:=.inr (.inr ⟨_,hmem,.inl rfl⟩)
  have hkb:k.back≠k.blk:=fun e=>hself.2.1 e.symm
  have hne:∀ x,x≠k.back→x≠k.blk→w''.heap[x]?=w₂.heap[x]?:=fun x h1 h2=>by
    rw [hw,setCell_ne _ (c0 k.blk 3) _ h2,heap_setChan_ne w₂ _ _ _ _ _ _ (fun e=>h1 e.symm)]
  have hback:w''.heap[k.back]?=some (.chan 0 #[] false (nB + 1) (nB + 1) false):=by
    rw [hw,setCell_ne _ (c0 k.blk 3) _ hkb]
    exact heap_setChan_self w₂ hB _ _ _ _ _ _
  have hwk3:∀ kd' ov pn,WkAt ty k kd' sb ov pn w₂→WkAt ty k kd' b ov pn w'':=fun kd' ov pn h=>by
    rw [hw]
    refine WkAt.stands (stn:=sb) ?_
    exact (heap_setChan_ne w₂ _ _ _ _ _ _ hkb).trans h
  have D':Did C gm.gb k (gstOf gm i Γ keep (w.setChan k.turn 0 #[] false n n false) home0 kd) Γ' w₂:=by rw [setChan_same hT];exact D
  refine MainX.back0 MW hi hT D' (fun j hj=>C.other j i Γ Γ' hj nx) hB hne (by rw [hw,setCell_size,setChan_size]) hback ?_ (fun _ _=>Iff.rfl) (fun hm x e=>?_) fun hturn=>⟨⟨_,hback⟩,⟨_,_,hturn⟩,?_⟩
  · rcases hst with ⟨rfl,fb',kd',_,_,h,_⟩ | ⟨rfl,_,_,kd',ov,h⟩
    · exact ⟨_,_,_,_,hwk3 _ _ _ h⟩
    · exact ⟨_,_,_,_,hwk3 _ _ _ h⟩
  · rcases hst with ⟨_,fb',kd',h,_,_,_,h1,h2⟩ | ⟨_,h,_⟩
    · rw [h] at e;cases e;exact ⟨h1,h2⟩
    · rw [h] at e;cases e
  · rcases hst with ⟨rfl,fb',kd',rfl,h1,h2,h3,h4,h5⟩ | ⟨rfl,rfl,h1,kd',ov,h2⟩
    · refine ⟨⟨kd',h1,hwk3 _ _ _ h2⟩,⟨_,hturn⟩,?_,rfl⟩
      have h3':w₂.heap[fb']?=some (.cells #[.pointer (some (c0 k.blk 0))] pty (0,0)):=h3
      exact (hne fb' (fun e=>by rw [e,hB] at h3';cases h3') (fun e=>h5 (e ▸ hkH))).trans h3
    · exact .inl ⟨hnd,h1,kd',ov,hwk3 _ _ _ h2⟩
end
end Go.Proofs.Ytndppafplgilbaa
