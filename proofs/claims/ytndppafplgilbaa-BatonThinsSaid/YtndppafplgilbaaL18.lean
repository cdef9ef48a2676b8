/-
  larchlaw04.BatonThins returns true for every input. No condition. (Part 18 of 49; joined by program.)
-/
import Derived.Test.YtndppafplgilbaaL17
import Derived.Test.YtndppafplgilbaaL16
import Derived.Deep.AppendLies
set_option linter.unusedVariables false
set_option linter.unusedSimpArgs false
set_option linter.unusedSectionVars false
set_option maxRecDepth 100000
namespace Go.Proofs.Ytndppafplgilbaa
open Go Go.Conc
open Go.ConcN (sumTo upd sumTo_upd upd_ne upd_same)
section
variable {H:Nat→Prop} {v w v' w' w'':World}
theorem Masked.seen {L:Nat} (M:Masked H L v w) {k:Nat} (hk:¬ H k) {c:Array Value} {e:TypeId} {f:Nat × Nat} (h:w.heap[k]?=some (.cells c e f)):v.heap[k]?=some (.cells c e f):=by
  rcases M.free k hk with ⟨h1,_⟩ | ⟨a,u,h1,_⟩ | ⟨a,u,h1,_⟩
  · rw [h1];exact h
  · rw [h] at h1;cases h1
  · rw [h] at h1;cases h1
theorem Masked.cellIn {L:Nat} (M:Masked H L v w) {a:Addr} (hk:¬ H a.block) {x:Value} (h:w.cell? a=some x):v.cell? a=some x:=by
  obtain ⟨c,e,f,h1,h2,h3⟩:=cell_some h
  rw [cell_of (M.seen hk h1) h2];exact h3
theorem Masked.owns {L:Nat} (M:Masked H L v w) {base:Nat} {e:TypeId} {size:Nat} {x:Value} {n:Nat} {xs:List Value} (hk:∀ g,x.ownBlock=some g→¬ H g) (h:w.ownsRow base e size x n xs):v.ownsRow base e size x n xs:=by
  refine ⟨h.1,h.2.imp id ?_⟩
  rintro ⟨g,cap,cur,rfl,h1,h2,h3⟩
  exact ⟨g,cap,cur,rfl,h1,M.seen (hk g rfl) h2,h3⟩
theorem Masked.owned {L:Nat} (M:Masked H L v w) {base:Nat} {e:TypeId} {size:Nat} {x:Value} {n:Nat} {xs:List Value} (h:v.ownsRow base e size x n xs):w.ownsRow base e size x n xs:=by
  refine ⟨h.1,h.2.imp id ?_⟩
  rintro ⟨g,cap,cur,rfl,h1,h2,h3⟩
  exact ⟨g,cap,cur,rfl,h1,M.cells h2,h3⟩
theorem ownsRow_of {base:Nat} {e:TypeId} {size:Nat} {x:Value} {n:Nat} {xs:List Value} (hk:∀ g,x.ownBlock=some g→w'.heap[g]?=w.heap[g]?) (h:w.ownsRow base e size x n xs):w'.ownsRow base e size x n xs:=by
  refine ⟨h.1,h.2.imp id ?_⟩
  rintro ⟨g,cap,cur,rfl,h1,h2,h3⟩
  exact ⟨g,cap,cur,rfl,h1,(hk g rfl).trans h2,h3⟩
theorem ownsRow_lt {base:Nat} {e:TypeId} {size:Nat} {x:Value} {n:Nat} {xs:List Value} (h:w.ownsRow base e size x n xs):∀ g,x.ownBlock=some g→g < w.heap.size:=by
  intro g hg
  rcases h.2 with ⟨rfl,_⟩ | ⟨g',cap,cur,rfl,h1,h2,h3⟩
  · cases hg
  · cases hg;exact (Array.getElem?_eq_some_iff.1 h2).1
structure Grow (st:Addr) (H:Nat→Prop) (row:Nat→Prop) (w w':World):Prop where
  hid:∃ w1,RW st w w1∧∀ k,H k→w'.heap[k]?=w1.heap[k]?
  ok:HidOk H w'
  low:∀ k,k < w.heap.size→¬ H k→¬ row k→w'.heap[k]?=w.heap[k]?
  size:w.heap.size≤w'.heap.size
theorem Alone.grow {st:Addr} {row:Nat→Prop} (M:Masked H 0 v w) (A:Alone st H w v' w') (h:∀ k,k < v.heap.size→¬ row k→v'.heap[k]?=v.heap[k]?):Grow st H row w w' :=
  ⟨A.kept.hid,masked_hid A.masked,fun k hk hH hr=>A.keep M hH (h k (by rw [M.size];exact hk) hr),A.kept.size⟩
theorem hid_trans {st:Addr} (hst:H st.block) (h1:∃ w1,RW st w w1∧∀ k,H k→w'.heap[k]?=w1.heap[k]?) (h2:∃ w2,RW st w' w2∧∀ k,H k→w''.heap[k]?=w2.heap[k]?):∃ w1,RW st w w1∧∀ k,H k→w''.heap[k]?=w1.heap[k]?:=by
  obtain ⟨w1,r1,h1⟩:=h1
  obtain ⟨w2,r2,h2⟩:=h2
  rcases r2 with ⟨d,rfl⟩ | ⟨n,n₁,d,h3,h4,rfl⟩
  · exact ⟨w1,r1,fun k hk=>(h2 k hk).trans (h1 k hk)⟩
  · obtain ⟨c,e,f,h5,h6,h7⟩:=cell_some h3
    have h8:w1.heap[st.block]?=some (.cells c e f):=(h1 _ hst).symm.trans h5
    have h9:w1.cell? st=some (.int .u64 (n * 4294967296:Nat)):=by rw [cell_of h8 h6];exact h7
    refine ⟨_,r1.trans (.inr ⟨n,n₁,d,h9,h4,rfl⟩),fun k hk=>(h2 k hk).trans ?_⟩
    show (w'.setCell st _).heap[k]?=(w1.setCell st _).heap[k]?
    by_cases ek:k=st.block
    · subst ek
      rw [setCell_self _ h5 h6,setCell_self _ h8 h6]
    · rw [setCell_ne _ _ _ ek,setCell_ne _ _ _ ek];exact h1 k hk
theorem Grow.trans {st:Addr} {row row' row'':Nat→Prop} (hst:H st.block) (a:Grow st H row w w') (b:Grow st H row' w' w'') (h1:∀ k,row k→row'' k) (h2:∀ k,k < w.heap.size→row' k→row'' k):Grow st H row'' w w'' :=
  ⟨hid_trans hst a.hid b.hid,b.ok,fun k hk hH hr=>(b.low k (Nat.lt_of_lt_of_le hk a.size) hH fun h=>hr (h2 k hk h)).trans (a.low k hk hH fun h=>hr (h1 k h)),Nat.le_trans a.size b.size⟩
theorem Grow.refl {st:Addr} (row:Nat→Prop) (h:HidOk H w):Grow st H row w w:=⟨⟨w,RW.refl,fun _ _=>rfl⟩,h,fun _ _ _ _=>rfl,Nat.le_refl _⟩
theorem Grow.own {st:Addr} {row:Nat→Prop} (a:Grow st H row w w') {k:Nat} (hk:H k) (hne:k≠st.block):w'.heap[k]?=w.heap[k]?:=by
  obtain ⟨w1,r,h⟩:=a.hid
  rw [h k hk];exact rw_heap r hne
theorem Grow.set {st:Addr} {row:Nat→Prop} (ok:HidOk H w) (a:Addr) (x:Value) (hH:¬ H a.block) (hr:row a.block):Grow st H row w (w.setCell a x) :=
  ⟨⟨w,RW.refl,fun k hk=>setCell_ne w a x (fun e=>hH (e ▸ hk))⟩,fun k hk=>by
    obtain ⟨c,e,h1,h2⟩:=ok k hk
    exact ⟨c,e,(setCell_ne w a x (fun e=>hH (e ▸ hk))).trans h1,h2⟩,fun k _ _ hn=>setCell_ne w a x (fun e=>hn (e ▸ hr)),by rw [setCell_size];exact Nat.le_refl _⟩
end
section
variable {C:Cli} {ty pty:TypeId} {P:Program} {Post:Value→World→Prop} {gm:Gm} {Γ:C.G} {keep keep' dead:Nat→Prop} {w w':World}
theorem Main.less (MW:Main C ty pty P Post gm Γ keep dead w) (h:∀ x,keep' x→keep x∨(¬ C.foot Γ x∧¬ gm.H x∧¬ gm.chan x∧x < w.heap.size)):Main C ty pty P Post gm Γ keep' dead w :=
  { MW with kpfoot:=fun x hx=>(h x hx).elim (MW.kpfoot x) id }
theorem Main.own (MW:Main C ty pty P Post gm Γ keep dead w) (h1:∀ x,gm.H x→x≠gm.gb→w'.heap[x]?=w.heap[x]?) (hid:HidOk gm.H w') (h2:∀ x,C.foot Γ x→w'.heap[x]?=w.heap[x]?) (h3:∀ x,gm.chan x∨gm.box x→w'.heap[x]?=w.heap[x]?) (hs:w.heap.size≤w'.heap.size):Main C ty pty P Post gm Γ keep dead w':=by
  have hb:=MW.wf.blk
  have hH:∀ p∈gm.ws,w'.heap[p.1.blk]?=w.heap[p.1.blk]?∧w'.heap[p.1.var]?=w.heap[p.1.var]?:=fun p hp=>⟨h1 _ (.inr (.inr ⟨p,hp,.inl rfl⟩)) (hb p hp).1,h1 _ (.inr (.inr ⟨p,hp,.inr rfl⟩)) (hb p hp).2.2.2⟩
  refine ⟨MW.wf,fun p hp=>?_,C.stable _ _ _ MW.M h2,hid,MW.Hfoot,MW.chfoot,MW.bxfoot,fun x hx=>?_,fun i p hp=>?_⟩
  · obtain ⟨e1,e2⟩:=hH p hp
    have:=MW.K p hp
    unfold World.cell? at this ⊢
    simp only [c0] at this ⊢
    rw [e1,e2];exact this
  · obtain ⟨a,b,c,d⟩:=MW.kpfoot x hx
    exact ⟨a,b,c,Nat.lt_of_lt_of_le d hs⟩
  · have W:=MW.ws i p hp
    have hpm:=Gm.at hp
    have eT:=h3 p.1.turn (.inl ⟨p,hpm,.inl rfl⟩)
    have eB:=h3 p.1.back (.inl ⟨p,hpm,.inr rfl⟩)
    have eK:=(hH p hpm).1
    refine ⟨by obtain ⟨n,h⟩:=W.back;exact ⟨n,eB.trans h⟩,by obtain ⟨cl,n,h⟩:=W.turn;exact ⟨cl,n,eT.trans h⟩,?_⟩
    have Ws:=W.st
    obtain ⟨k,st⟩:=p
    cases st with
    | sits home fb =>
      obtain ⟨⟨kd,a1,a2⟩,⟨n,a3⟩,a4,a5⟩:=Ws
      exact ⟨⟨kd,a1,eK.trans a2⟩,⟨n,eT.trans a3⟩,(h3 fb (.inr ⟨_,hpm,home,rfl⟩)).trans a4,a5⟩
    | done =>
      rcases Ws with ⟨a0,a1,kd,ov,a2⟩ | ⟨a0,kd,ov,pn,a2⟩
      · exact .inl ⟨a0,a1,kd,ov,eK.trans a2⟩
      · exact .inr ⟨a0,kd,ov,pn,eK.trans a2⟩
    | gone=>exact Ws
structure Free (C:Cli) (gm:Gm) (Γ:C.G) (x:Nat):Prop where
  foot:¬ C.foot Γ x
  H:¬ gm.H x
  chan:¬ gm.chan x
  box:¬ gm.box x
theorem Main.grow (MW:Main C ty pty P Post gm Γ keep dead w) {row:Nat→Prop} (G:Grow (c0 gm.gb 1) gm.H row w w') (hr:∀ x,row x→x < w.heap.size→Free C gm Γ x):Main C ty pty P Post gm Γ keep dead w':=by
  have lt:∀ x,gm.chan x∨gm.box x→x < w.heap.size:=fun x hx=>MW.kplow (.inr hx)
  refine MW.own (fun x hx hne=>G.own hx hne) G.ok (fun x hx=>?_) (fun x hx=>?_) G.size
  · exact G.low x (C.low _ _ MW.M x hx) (fun h=>MW.Hfoot x h hx) fun h=>(hr x h (C.low _ _ MW.M x hx)).foot hx
  · refine G.low x (lt x hx) ?_ fun h=>?_
    · rcases hx with h | h
      · exact MW.wf.chanH h
      · exact (MW.bxfoot x h).2
    · have:=hr x h (lt x hx)
      exact hx.elim this.chan this.box
theorem Main.free (MW:Main C ty pty P Post gm Γ keep dead w) {x:Nat} (hx:w.heap.size≤x):Free C gm Γ x :=
  ⟨fun h=>by have:=C.low _ _ MW.M x h;omega,fun h=>by
    obtain ⟨c,e,h1,_⟩:=MW.hid x h
    have:=(Array.getElem?_eq_some_iff.1 h1).1;omega,fun h=>by have:=MW.kplow (.inr (.inl h));omega,fun h=>by have:=MW.kplow (.inr (.inr h));omega⟩
end
section
variable {C:Cli} {ty pty:TypeId} {P:Program} {Post:Value→World→Prop} {gm:Gm} {Γ:C.G} {keep dead:Nat→Prop} {w:World}
theorem Main.notBox' (MW:Main C ty pty P Post gm Γ keep dead w) {x:Nat} {c:Array Value} {e:TypeId} {f:Nat × Nat} (h:w.heap[x]?=some (.cells c e f)) (he:e≠pty):¬ gm.box x:=by
  rintro ⟨p,hp,home,e1⟩
  obtain ⟨j,hj,e'⟩:=List.getElem_of_mem hp
  have W:=(MW.ws j p (by rw [List.getElem?_eq_getElem hj,e'])).st
  rw [e1] at W
  have hb:w.heap[x]?=some (.cells #[.pointer (some (c0 p.1.blk 0))] pty (0,0)):=W.2.2.1
  rw [h] at hb
  injection hb with hb
  injection hb with _ hb
  exact he hb
end
section
variable {P:Program} {Gh:Type} {sit:Gh→Sit} {h:Nat} {L:Gh→Goroutine→World→Prop} (O:OwnL P sit h L)
variable {f:FuncId} {kd:CallKind} {s:Gh} {a:Act} {w:World} {k:List Item} {cs:List Frame}
include O
theorem l_maskU {F:FuncId→Bool} (hF:∀ f,F f=true→FnOk P f) {H:Nat→Prop} (hh:Hides (sit s) h H) (hkd:kd≠.early) (ok:HidOk H w) {ops:Array Oper} {i:Nat} {rest:List Nat} {o:Oper} (ho:ops[i]?=some o) (hw:Region.wanted o (yielded ops a.tmps)=true) (hok:okOp P F o=true)
    {R:World→World→Prop} (hp:∀ v,Masked H 0 v w→∃ v',(execOp a.eval o).run P v=.ok .skip v'∧R v v')
    (hq:∀ v v' w',Masked H 0 v w→R v v'→Alone (sit s).st H w v' w'→L s (G ((bk f kd).at (a.put o.dst undef) (.inRegion ops rest :: k)) cs) w'):L s (G ((bk f kd).at a (.inRegion ops (i :: rest) :: k)) cs) w:=by
  refine l_do O hkd ho hw fun hsok w₁ r=>?_
  have rh:=RW.RH hh.st r
  have ok₁:=rh.hid ok
  have Ma:∀ L,Masked H L (mask H w₁ w₁.tape w₁.drawn) w₁:=fun L=>masked_mask ok₁ fun _ _ _=>rfl
  have Mw:Masked H 0 (mask H w₁ w₁.tape w₁.drawn) w:=masked_of ok (by rw [(Ma 0).heap,rh.mask ok]) ((Ma 0).os.trans rh.os) ((Ma 0).out.trans rh.out) fun i q hi=>by omega
  obtain ⟨v',hr,hR⟩:=hp _ Mw
  have K:=fits_op hF hok a.eval (fun _=>rfl)
  have hle:=fin_drawn (P:=P) (s:=execOp a.eval o) (w:=mask H w₁ w₁.tape w₁.drawn) (c:=.inl .skip) (w':=v') (by rw [hr];rfl)
  obtain ⟨w',es,h1,B⟩:=sys_of K.sim (c:=.inl .skip) (by rw [hr];rfl) (Ma (v'.drawn - (mask H w₁ w₁.tape w₁.drawn).drawn)) (by omega)
  have hl:listed P f a o w₁=seen P f es:=by unfold listed;rw [events_of h1]
  rw [hl]
  have T:=treads_seen (P:=P) B.treads f
  exact ⟨w',run_of h1,hh.DT T,treads_deaf T,hq _ v' w' Mw hR ⟨B.masked.zero,((Kept.refl _ _ _).rw r).tread B.treads⟩⟩
theorem l_piece {Y:Dyn} (C:Closed P Y) {H:Nat→Prop} (hh:Hides (sit s) h H) (hf:∃ fn,P.funcs[f]?=some fn) {c:Code} (hc:okCode P Y f c=true) {tmps:Array Value} (hsl:Slots Y f tmps) (ok:HidOk H w) {R:World→Act→World→Prop}
    (hp:∀ v,Masked H 0 v w→c.wp P (fun e a u=>e=.normal∧a.defers=[]∧R v a u) ⟨tmps,[]⟩ v)
    (hq:∀ v tmps' v' w',Masked H 0 v w→R v ⟨tmps',[]⟩ v'→Alone (sit s).st H w v' w'→L s (G ((bk f .normal).at ⟨tmps',[]⟩ k) cs) w'):L s (G ((bk f .normal).at ⟨tmps,[]⟩ (.code c :: k)) cs) w:=by
  have key:=wpL_piece O (Sk:=fun _=>True) C hh hf hc hsl ok (s:=s) (R:=fun v e a u=>e=.normal∧R v a u) (Q:=fun e s' a' w'=>e=.normal∧L s' (G ((bk f .normal).at a' k) cs) w')
    (fun v M=>Code.wp_mono (fun e a u hq=>⟨.inl hq.1,hq.2.1,hq.1,hq.2.2⟩) (hp v M)) (fun v e ts v' w' M hR he A=>⟨hR.1,hq v ts v' w' M hR.2 A⟩)
  exact key k cs trivial fun e s' a' w' ⟨he,h⟩=>by subst he;exact h
theorem l_append {F:FuncId→Bool} (hF:∀ f,F f=true→FnOk P f) {H:Nat→Prop} (hh:Hides (sit s) h H) (hkd:kd≠.early) (ok:HidOk H w) {ops:Array Oper} {i:Nat} {rest:List Nat} {o:Oper} {x y:Operand} {t:TypeId} (ho:ops[i]?=some o) (hw:Region.wanted o (yielded ops a.tmps)=true)
    (hop:o.op=.call { callee:=.builtin .append,args:=#[x,y],argTypes:=#[t,t] }) {e:TypeId} {ti:TypeInfo} {z:Value} {size bytes:Nat} (ht:P.underlying t=some (.slice e)) (hi:P.info? e=some ti) (hz:ti.zero=some z) (hsize:ti.size=size) (hby:ti.bytes=bytes) (hzs:z.cells.size=size) (hsz:0 < size)
    {v:Value} {n:Nat} {xs:List Value} (hs:a.eval x=v) (hown:w.ownsRow 0 e size v n xs) (hvH:∀ g,v.ownBlock=some g→¬ H g)
    {ad:Addr} {m c:Nat} {news:List Value} (hx:a.eval y=.slice (some ad) m c) (hl:news.length=m * size) (hnews:∀ j u,news[j]?=some u→w.cell? (ad.add j)=some u) (hadH:¬ H ad.block) (h1:∀ u∈news,u.oneCell'=true)
    (hm:0 < m) (h63:n + m≤maxLen) (hbytes:(n + m) * bytes≤140737488355328)
    (hq:∀ g cap w',w'.ownsRow 0 e size (.slice (some ⟨g,0,none⟩) (n + m) cap) (n + m) (xs ++ news)→Grow (sit s).st H (fun k=>v.ownBlock=some k) w w'→(v.ownBlock=some g∨g=w.heap.size)→¬ H g→g < w'.heap.size→L s (G ((bk f kd).at (a.put o.dst (.slice (some ⟨g,0,none⟩) (n + m) cap)) (.inRegion ops rest :: k)) cs) w'):L s (G ((bk f kd).at a (.inRegion ops (i :: rest) :: k)) cs) w:=by
  refine l_mask O hF hh hkd ok ho hw (by simp [okOp,hop]) (R:=fun v0 xv v'=>∃ g cap,xv=.slice (some ⟨g,0,none⟩) (n + m) cap∧v'.ownsRow 0 e size (.slice (some ⟨g,0,none⟩) (n + m) cap) (n + m) (xs ++ news)∧v0.grownBy v' v.ownBlock∧(v.ownBlock=some g∨g=v0.heap.size)) (fun v0 M=>?_) (fun v0 xv v' w' M hR A=>?_)
  · obtain ⟨g,cap,v',hr,h2,h3,h4,h5⟩:=run_append_lies (P:=P) v0 t o.type 0 e ti z size bytes ht hi hz hsize hby hzs hsz v n xs (M.owns hvH hown) ad m c news hl (fun j u hj=>M.cellIn (by have e:(ad.add j).block=ad.block:=(by unfold Addr.add;split <;> rfl);rw [e];exact hadH) (hnews j u hj)) h1 hm h63 hbytes (Nat.zero_le _) _ rfl
    refine ⟨_,v',?_,g,cap,rfl,h2,h3,h4⟩
    unfold execOp
    simp only [hop,resolve,invoke,builtin,Sem.run_bind,Sem.run_pure,Result.andThen_ok,List.map_toArray,List.map_cons,List.map_nil,hs,hx,hr]
  · obtain ⟨g,cap,rfl,h2,h3,h4⟩:=hR
    have ho2:=A.masked.owned h2
    have hgl:g < w'.heap.size:=ownsRow_lt ho2 g rfl
    refine hq g cap w' ho2 (A.grow M fun k hk hr=>h3.block k hk fun e=>hr e.symm) (by rw [← M.size];exact h4) (fun hg=>?_) hgl
    rcases h4 with h4 | h4
    · exact hvH g h4 hg
    · obtain ⟨c,e,h5,_⟩:=ok g hg
      have:=(Array.getElem?_eq_some_iff.1 h5).1
      rw [h4,M.size] at this;omega
end
end Go.Proofs.Ytndppafplgilbaa
namespace Go.Proofs.Ytndppafplgilbaa
open Go Go.Conc
open Go.ConcN (sumTo upd sumTo_upd upd_ne upd_same)
structure Own (C:Cli) (gm:Gm) (Γ:C.G) (keep:Nat→Prop) (x:Nat):Prop where
  kp:¬ keep x
  foot:¬ C.foot Γ x
  H:¬ gm.H x
  chan:¬ gm.chan x
section
variable {C:Cli} {ty pty:TypeId} {P:Program} {Post:Value→World→Prop} {gm:Gm} {Γ:C.G} {keep dead:Nat→Prop} {w w' w1 v v':World} {R:World→Prop} {Z:Nat→Prop} {tb o n:Nat} {tc:Array Value} {tbT eT:TypeId} {rv x x7 x8:Value} {xs:List Value} {b7 b8 b10:Bool}
theorem Main.fresh (MW:Main C ty pty P Post gm Γ keep dead w) {x:Nat} (hx:w.heap.size≤x):Own C gm Γ keep x:=by
  have F:=MW.free hx
  exact ⟨fun hk=>by have:=(MW.kpfoot x hk).2.2.2;omega,F.foot,F.H,F.chan⟩
structure AppW (C:Cli) (ty pty:TypeId) (P:Program) (Post:Value→World→Prop) (gm:Gm) (Γ:C.G) (keep dead:Nat→Prop) (R:World→Prop) (Z:Nat→Prop) (tb o:Nat) (tc:Array Value) (tbT eT:TypeId) (rv:Value) (n:Nat) (xs:List Value) (x:Value) (b7 b8 b10:Bool) (x7 x8:Value) (w:World):Prop where
  MW:Main C ty pty P Post gm Γ keep dead w
  r:R w
  rk:∀ w1 w2,R w1→Grow (c0 gm.gb 1) gm.H (fun k=>k=tb∨rv.ownBlock=some k) w1 w2→R w2
  rz:∀ w,R w→∀ g,Z g→g < w.heap.size
  tbO:Own C gm Γ keep tb
  rvO:∀ g,rv.ownBlock=some g→Own C gm Γ keep g∧g≠tb
  tbx:tbT≠pty∧eT≠pty
  tbc:b10=false→w.heap[tb]?=some (.cells tc tbT (0,0))∧tc[o]?=some rv
  row:b8=false→w.ownsRow 0 eT 1 rv n xs
  s1:b8=false→b7=true→∃ nb,x7=.slice (some ⟨nb,0,none⟩) 1 1∧w.heap[nb]?=some (.cells #[x] eT (0,0))∧¬ gm.H nb
  s2:b8=true→∃ g cap,x8=.slice (some ⟨g,0,none⟩) (n + 1) cap∧w.ownsRow 0 eT 1 x8 (n + 1) (xs ++ [x])∧Own C gm Γ keep g∧g≠tb∧(rv.ownBlock=some g∨¬ Z g)
  s3:b10=true→b8=true∧w.heap[tb]?=some (.cells (tc.setIfInBounds o x8) tbT (0,0))
theorem AppW.c (W:AppW C ty pty P Post gm Γ keep dead R Z tb o tc tbT eT rv n xs x b7 b8 b10 x7 x8 w) (h:b10=false):w.cell? ⟨tb,o,none⟩=some rv:=by
  obtain ⟨h1,h2⟩:=W.tbc h
  rw [cell_of (a:=⟨tb,o,none⟩) h1 rfl];exact h2
theorem AppW.f (W:AppW C ty pty P Post gm Γ keep dead R Z tb o tc tbT eT rv n xs x b7 b8 b10 x7 x8 w) (h:b10=false):w.frozen? ⟨tb,o,none⟩=false:=by
  obtain ⟨h1,h2⟩:=W.tbc h
  unfold World.frozen?;simp only [h1];simp
theorem AppW.start (MW:Main C ty pty P Post gm Γ keep dead w) (r:R w) (rk:∀ w1 w2,R w1→Grow (c0 gm.gb 1) gm.H (fun k=>k=tb∨rv.ownBlock=some k) w1 w2→R w2) (rz:∀ w,R w→∀ g,Z g→g < w.heap.size) (tbO:Own C gm Γ keep tb) (rvO:∀ g,rv.ownBlock=some g→Own C gm Γ keep g∧g≠tb) (tbx:tbT≠pty∧eT≠pty)
    (h1:w.heap[tb]?=some (.cells tc tbT (0,0))) (h2:tc[o]?=some rv) (h3:w.ownsRow 0 eT 1 rv n xs):AppW C ty pty P Post gm Γ keep dead R Z tb o tc tbT eT rv n xs x false false false undef undef w :=
  ⟨MW,r,rk,rz,tbO,rvO,tbx,fun _=>⟨h1,h2⟩,fun _=>h3,fun _ h=>(by cases h),fun h=>(by cases h),fun h=>(by cases h)⟩
theorem AppW.built (W:AppW C ty pty P Post gm Γ keep dead R Z tb o tc tbT eT rv n xs x false false b10 x7 x8 w) (M:Masked gm.H 0 v w) (A:Alone (c0 gm.gb 1) gm.H w (v.alloc (.cells #[x] eT)) w1):AppW C ty pty P Post gm Γ keep dead R Z tb o tc tbT eT rv n xs x true false b10 (.slice (some ⟨v.heap.size,0,none⟩) 1 1) x8 w1:=by
  have G1:Grow (c0 gm.gb 1) gm.H (fun _=>False) w w1:=A.grow M fun k hk _=>by
    show (v.heap.push _)[k]?=_
    rw [Array.getElem?_push_lt hk,Array.getElem?_eq_getElem hk]
  have low:∀ k,k < w.heap.size→¬ gm.H k→w1.heap[k]?=w.heap[k]?:=fun k h1 h2=>G1.low k h1 h2 id
  refine ⟨W.MW.grow G1 fun x h=>h.elim,W.rk _ _ W.r ⟨G1.hid,G1.ok,fun k h1 h2 _=>low k h1 h2,G1.size⟩,W.rk,W.rz,W.tbO,W.rvO,W.tbx,fun h=>?_,fun h=>?_,fun _ _=>⟨v.heap.size,rfl,A.masked.cells (show (v.heap.push _)[v.heap.size]?=_ by simp),fun hH=>(W.MW.free (x:=v.heap.size) (by rw [M.size];exact Nat.le_refl _)).H hH⟩,fun h=>(by cases h),fun h=>(by have:=(W.s3 h).1;cases this)⟩
  · obtain ⟨a,b⟩:=W.tbc h
    exact ⟨(low tb (Array.getElem?_eq_some_iff.1 a).1 W.tbO.H).trans a,b⟩
  · have a:=W.row h
    exact ownsRow_of (fun g hg=>low g (ownsRow_lt a g hg) (W.rvO g hg).1.H) a
theorem AppW.appended (W:AppW C ty pty P Post gm Γ keep dead R Z tb o tc tbT eT rv n xs x true false false x7 x8 w) {g cap:Nat} (hown:w1.ownsRow 0 eT 1 (.slice (some ⟨g,0,none⟩) (n + 1) cap) (n + 1) (xs ++ [x])) (G1:Grow (c0 gm.gb 1) gm.H (fun k=>rv.ownBlock=some k) w w1) (hg:rv.ownBlock=some g∨g=w.heap.size):AppW C ty pty P Post gm Γ keep dead R Z tb o tc tbT eT rv n xs x true true false x7 (.slice (some ⟨g,0,none⟩) (n + 1) cap) w1:=by
  have hrow:=W.row rfl
  have low:∀ k,k < w.heap.size→¬ gm.H k→rv.ownBlock≠some k→w1.heap[k]?=w.heap[k]?:=fun k h1 h2 h3=>G1.low k h1 h2 h3
  have hbox:∀ y,rv.ownBlock=some y→¬ gm.box y:=fun y hy=>by
    rcases hrow.2 with ⟨rfl,_⟩ | ⟨g',cap',cur,rfl,h1,h2,h3⟩
    · cases hy
    · cases hy;exact W.MW.notBox' h2 W.tbx.2
  have MW1:=W.MW.grow G1 fun y h hy=>⟨(W.rvO y h).1.foot,(W.rvO y h).1.H,(W.rvO y h).1.chan,hbox y h⟩
  refine ⟨MW1,W.rk _ _ W.r ⟨G1.hid,G1.ok,fun k h1 h2 h3=>low k h1 h2 fun e=>h3 (.inr e),G1.size⟩,W.rk,W.rz,W.tbO,W.rvO,W.tbx,fun h=>?_,fun h=>(by cases h),fun h=>(by cases h),fun _=>⟨g,cap,rfl,hown,?_⟩,fun h=>(by cases h)⟩
  · obtain ⟨a,b⟩:=W.tbc h
    exact ⟨(low tb (Array.getElem?_eq_some_iff.1 a).1 W.tbO.H fun e=>(W.rvO tb e).2 rfl).trans a,b⟩
  · rcases hg with hg | hg
    · exact ⟨(W.rvO g hg).1,(W.rvO g hg).2,.inl hg⟩
    · subst hg
      obtain ⟨a,b⟩:=W.tbc rfl
      have hlt:=(Array.getElem?_eq_some_iff.1 a).1
      exact ⟨W.MW.fresh (Nat.le_refl _),by omega,.inr fun hZ=>by have:=W.rz _ W.r _ hZ;omega⟩
theorem AppW.stored (W:AppW C ty pty P Post gm Γ keep dead R Z tb o tc tbT eT rv n xs x b7 true false x7 x8 w):AppW C ty pty P Post gm Γ keep dead R Z tb o tc tbT eT rv n xs x b7 true true x7 x8 (w.setCell ⟨tb,o,none⟩ x8):=by
  obtain ⟨a,b⟩:=W.tbc rfl
  have hne:∀ k,k≠tb→(w.setCell ⟨tb,o,none⟩ x8).heap[k]?=w.heap[k]?:=fun k hk=>setCell_ne w ⟨tb,o,none⟩ x8 hk
  have G1:Grow (c0 gm.gb 1) gm.H (fun k=>k=tb) w (w.setCell ⟨tb,o,none⟩ x8):=Grow.set W.MW.hid _ _ W.tbO.H rfl
  have MW1:=W.MW.grow G1 fun y h _=>by
    have h:y=tb:=h
    subst h
    exact ⟨W.tbO.foot,W.tbO.H,W.tbO.chan,W.MW.notBox' a W.tbx.1⟩
  refine ⟨MW1,W.rk _ _ W.r ⟨G1.hid,G1.ok,fun k h1 h2 h3=>hne k fun e=>h3 (.inl e),G1.size⟩,W.rk,W.rz,W.tbO,W.rvO,W.tbx,fun h=>(by cases h),fun h=>(by cases h),fun h=>(by cases h),fun h=>?_,fun _=>⟨rfl,setCell_self (a:=⟨tb,o,none⟩) x8 a rfl⟩⟩
  obtain ⟨g,cap,e,h1,h2,h3,h4⟩:=W.s2 h
  refine ⟨g,cap,e,ownsRow_of (fun g' hg=>hne g' ?_) h1,h2,h3,h4⟩
  rw [e] at hg;cases hg;exact h3
theorem AppW.done (W:AppW C ty pty P Post gm Γ keep dead R Z tb o tc tbT eT rv n xs x b7 b8 true x7 x8 w):Main C ty pty P Post gm Γ keep dead w∧R w∧w.heap[tb]?=some (.cells (tc.setIfInBounds o x8) tbT (0,0))∧w.ownsRow 0 eT 1 x8 (n + 1) (xs ++ [x])∧∀ g,x8.ownBlock=some g→Own C gm Γ keep g∧g≠tb∧(rv.ownBlock=some g∨¬ Z g):=by
  obtain ⟨h8,ht⟩:=W.s3 rfl
  obtain ⟨g,cap,e,h1,h2,h3,h4⟩:=W.s2 h8
  refine ⟨W.MW,W.r,ht,h1,fun g' hg=>?_⟩
  rw [e] at hg;cases hg
  exact ⟨h2,h3,h4⟩
end
end Go.Proofs.Ytndppafplgilbaa
