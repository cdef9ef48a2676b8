/-
  larchlaw04.BatonThins returns true for every input. No condition. (Part 30 of 49; joined by program.)
-/
import Derived.Test.YtndppafplgilbaaL26
import Derived.Test.YtndppafplgilbaaL20
import Derived.Test.YtndppafplgilbaaL18
set_option linter.unusedVariables false
set_option linter.unusedSimpArgs false
set_option linter.unusedSectionVars false
set_option maxRecDepth 100000
namespace Go.Proofs.Ytndppafplgilbaa
open Go Go.Conc Go.RowKit
open Go.ConcN (sumTo upd sumTo_upd upd_ne upd_same)
section
variable {C:Cli} {ty pty:TypeId} {n0 gb i:Nat} {k:Wk} {gh:Gst C} {Γ' Γ'':C.G} {w w':World}
theorem Mid.kpfoot (E:Mid C ty n0 gb i k gh Γ' w) {x:Nat} (hx:gh.kp x):¬ C.foot Γ' x:=fun h=>by
  rcases E.did.grow x h with h | h
  · exact E.kp_foot x hx h
  · have:=E.kp_low x hx;omega
theorem Mid.Hfoot (E:Mid C ty n0 gb i k gh Γ' w) {x:Nat} (hx:gh.gm.H x):¬ C.foot Γ' x:=E.did.footH E.H_low E.H_foot x hx
theorem Mid.low (E:Mid C ty n0 gb i k gh Γ' w) {x:Nat} (hx:C.foot Γ' x):x < w.heap.size:=C.low _ _ E.did.M x hx
theorem Mid.grow (E:Mid C ty n0 gb i k gh Γ' w) {row:Nat→Prop} (G:Grow (c0 gb 1) gh.gm.H row w w') (hM:C.M Γ'' w') (hf:∀ x,C.foot Γ'' x→C.foot Γ' x∨w.heap.size≤x) (hr:∀ x,row x→x < w.heap.size→C.foot Γ' x∨gh.w0.heap.size≤x):Mid C ty n0 gb i k gh Γ'' w':=by
  have hbk:k.blk≠gb:=by rw [← E.hgb];exact (E.wf.blk _ (Gm.at E.at_)).1
  have hgH:gh.gm.H gb:=.inl E.hgb.symm
  have hkH:gh.gm.H k.blk:=.inr (.inr ⟨_,Gm.at E.at_,.inl rfl⟩)
  have hkp:∀ x,gh.kp x→w'.heap[x]?=w.heap[x]?:=fun x hx=>by
    refine G.low x (Nat.lt_of_lt_of_le (E.kp_low x hx) E.did.size) (E.kp_H x hx) fun h=>?_
    rcases hr x h (Nat.lt_of_lt_of_le (E.kp_low x hx) E.did.size) with h | h
    · exact E.kpfoot hx h
    · have:=E.kp_low x hx;omega
  refine ⟨E.at_,E.hn0,E.hgb,E.hpn,E.wf,E.kp_low,E.kp_foot,E.kp_H,E.H_low,E.H_foot,⟨hM,fun x hx=>?_,fun x hx=>(hkp x hx).trans (E.did.kp x hx),?_,G.ok,Nat.le_trans E.did.size G.size⟩,(G.own hkH hbk).trans E.wk,⟨E.chT.1,?_⟩,⟨E.chB.1,?_⟩⟩
  · rcases hf x hx with h | h
    · exact E.did.grow x h
    · exact .inr (Nat.le_trans E.did.size h)
  · obtain ⟨w1,r1,h1⟩:=E.did.hid
    obtain ⟨w2,r2,h2⟩:=G.hid
    rcases r2 with ⟨d,rfl⟩ | ⟨n,n₁,d,h3,h4,rfl⟩
    · exact ⟨w1,r1,fun x hx hxk=>(h2 x hx).trans (h1 x hx hxk)⟩
    · obtain ⟨c,e,f,h5,h6,h7⟩:=cell_some h3
      have h5':w.heap[gb]?=some (.cells c e f):=h5
      have h8:w1.heap[gb]?=some (.cells c e f):=(h1 gb hgH (fun e=>hbk e.symm)).symm.trans h5'
      have h9:w1.cell? (c0 gb 1)=some (.int .u64 (n * 4294967296:Nat)):=by rw [cell_of (show w1.heap[(c0 gb 1).block]?=_ from h8) rfl];exact h7
      refine ⟨_,r1.trans (.inr ⟨n,n₁,d,h9,h4,rfl⟩),fun x hx hxk=>(h2 x hx).trans ?_⟩
      show (w.setCell (c0 gb 1) _).heap[x]?=(w1.setCell (c0 gb 1) _).heap[x]?
      by_cases ex:x=gb
      · subst ex
        rw [setCell_self (a:=c0 x 1) _ (show w.heap[(c0 x 1).block]?=_ from h5') rfl,setCell_self (a:=c0 x 1) _ (show w1.heap[(c0 x 1).block]?=_ from h8) rfl]
      · rw [setCell_ne w (c0 gb 1) _ ex,setCell_ne w1 (c0 gb 1) _ ex];exact h1 x hx hxk
  · obtain ⟨hk,cl,n,hn⟩:=E.chT
    exact ⟨cl,n,(hkp _ hk).trans hn⟩
  · obtain ⟨hk,n,hn⟩:=E.chB
    exact ⟨n,(hkp _ hk).trans hn⟩
theorem Mid.newer (E:Mid C ty n0 gb i k gh Γ' w) (G:Grow (c0 gb 1) gh.gm.H (fun _=>False) w w'):Mid C ty n0 gb i k gh Γ' w' :=
  E.grow G (C.stable _ _ _ E.did.M fun x hx=>G.low x (E.low hx) (fun h=>E.Hfoot h hx) id) (fun x hx=>.inl hx) fun x h=>h.elim
theorem Mid.newH (E:Mid C ty n0 gb i k gh Γ' w) {x:Nat} (hx:gh.w0.heap.size≤x):¬ gh.gm.H x:=fun h=>by have:=E.H_low x h;omega
end
section
variable {gb:Nat} {C:Cli} {n0 i:Nat} {k:Wk} {Post:Value→World→Prop}
structure Run (C:Cli) (n0 gb i:Nat) (k:Wk) (fb:Nat) (gh:Gst C) (Γ':C.G) (w:World):Prop where
  mid:Mid C wkT n0 gb i k gh Γ' w
  kp:gh.kp fb
  box:BoxAt wkP k fb w
  bx:gh.w0.heap.size≤fb∨gh.bx fb
variable {fb:Nat} {gh:Gst C} {Γ' Γ'':C.G} {w w':World}
theorem Run.grow (E:Run C n0 gb i k fb gh Γ' w) {row:Nat→Prop} (G:Grow (c0 gb 1) gh.gm.H row w w') (hM:C.M Γ'' w') (hf:∀ x,C.foot Γ'' x→C.foot Γ' x∨w.heap.size≤x) (hr:∀ x,row x→x < w.heap.size→C.foot Γ' x∨gh.w0.heap.size≤x):Run C n0 gb i k fb gh Γ'' w':=by
  have hlt:=Nat.lt_of_lt_of_le (E.mid.kp_low fb E.kp) E.mid.did.size
  refine ⟨E.mid.grow G hM hf hr,E.kp,(G.low fb hlt (E.mid.kp_H fb E.kp) fun h=>?_).trans E.box,E.bx⟩
  rcases hr fb h hlt with h | h
  · exact E.mid.kpfoot E.kp h
  · have:=E.mid.kp_low fb E.kp;omega
theorem Run.newer (E:Run C n0 gb i k fb gh Γ' w) (G:Grow (c0 gb 1) gh.gm.H (fun _=>False) w w'):Run C n0 gb i k fb gh Γ' w' :=
  E.grow G (C.stable _ _ _ E.mid.did.M fun x hx=>G.low x (E.mid.low hx) (fun h=>E.mid.Hfoot h hx) id) (fun x hx=>.inl hx) fun x h=>h.elim
theorem Ready.run (R:Ready C wkT wkP n0 gb i k fb gh w):Run C n0 gb i k fb gh gh.Γ w:=⟨R.mid,R.box.1,R.box.2,R.bx⟩
theorem Passed.run {x:C.X} (X:Passed C n0 gb i k fb x gh w):Run C n0 gb i k fb gh gh.Γ w:=⟨X.mid,X.kp,X.box,X.bx⟩
theorem Run.gate (E:Run C n0 gb i k fb gh Γ' w) (nx:C.next i gh.Γ Γ') {kind:Int} (hst:C.stand (C.own i Γ')=some kind) :
    CallsL Try.prog (LC C n0 gb i k Post) (SkF fb gb) 64 #[.iface wkP (.pointer (some (c0 k.blk 0))),.int .i64 kind] gh w (fun r gh' w'=>r=.inl (.tuple #[])∧C.own i gh'.Γ=C.own i Γ'∧Run C n0 gb i k fb gh' gh'.Γ w') :=
  CallsL.mono (gate_calls nx E.mid hst E.box (E.mid.kpfoot E.kp) (E.mid.kp_H fb E.kp) E.bx) fun r gh' w' h=>⟨h.1,h.2.own,h.2.run⟩
theorem Run.ended (E:Run C n0 gb i k fb gh Γ' w) (nx:C.next i gh.Γ Γ') (hst:C.stand (C.own i Γ')=none) {p:Bool} (hp:C.pan (C.own i Γ')=p):EndedC C n0 gb i k fb p gh Γ' w :=
  ⟨nx,E.mid,hst,hp,E.box,E.mid.kp_H fb E.kp⟩
end
end Go.Proofs.Ytndppafplgilbaa
namespace Go.Proofs.Ytndppafplgilbaa
open Go Go.Conc
section
variable {P:Program} {Gh:Type} {sit:Gh→Sit} {h:Nat} {L:Gh→Goroutine→World→Prop} (O:OwnL P sit h L)
variable {f:FuncId} {kd:CallKind} {s:Gh} {a:Act} {w:World} {k:List Item} {cs:List Frame}
include O
theorem l_loadH {H:Nat→Prop} (hh:Hides (sit s) h H) (hkd:kd≠.early) {ops:Array Oper} {i:Nat} {rest:List Nat} {o:Oper} {p:Addr} {x:Value} (ho:ops[i]?=some o) (hw:Region.wanted o (yielded ops a.tmps)=true)
    (hc:w.cell? p=some x) (hp:¬ H p.block)
    (hr:∀ w₁,w₁.cell? p=some x→(execOp a.eval o).run P w₁=.ok (.value x) w₁∧listed P f a o w₁=#[⟨.cell p,false,false⟩])
    (hnx:L s (G ((bk f kd).at (a.put o.dst x) (.inRegion ops rest :: k)) cs) w):L s (G ((bk f kd).at a (.inRegion ops (i :: rest) :: k)) cs) w:=by
  refine l_op O hkd ho hw fun hsok w₁ r=>?_
  have hc₁:w₁.cell? p=some x:=by
    rcases r with ⟨d,rfl⟩ | ⟨n,n₁,d,h3,_,rfl⟩
    · exact hc
    · have hs:(sit s).st.spot=none:=by obtain ⟨_,_,_,_,h4,_⟩:=cell_some h3;exact h4
      have hne:p.block≠(sit s).st.block:=fun e=>hp (e ▸ hh.st hs)
      show (w.setCell (sit s).st _).cell? p=_
      rw [cell_set_ne (.inl fun e=>hne e.symm)];exact hc
  obtain ⟨h1,h2⟩:=hr w₁ hc₁
  have hb:p.block < w₁.heap.size:=by
    obtain ⟨_,_,_,h3,_⟩:=cell_some hc₁
    exact (Array.getElem?_eq_some_iff.1 h3).1
  refine ⟨x,w₁,h1,?_,fun d=>?_,O.rely _ _ _ _ hnx r⟩
  · rw [h2]
    refine ⟨id,fun _ _ _ _=>rfl,fun _=>⟨rfl,rfl⟩,fun e he b hb'=>?_,Nat.le_refl _,fun e he b y hb' hy=>?_,rfl,rfl⟩
    all_goals
      simp only [List.mem_toArray,List.mem_singleton] at he
      subst he
      simp only [ofEvent_cell0,MemAct.touch?,Option.some.injEq] at hb'
      subst hb'
    · exact ⟨fun _ _ _ _=>rfl,fun hS=>absurd (hh.Shun _ hS) hp⟩
    · cases hy;exact hb
  · rw [h2];exact deafBehind_still (fun e he=>by simp only [List.mem_toArray,List.mem_singleton] at he;subst he;simp) d
theorem l_storeM {H:Nat→Prop} (hh:Hides (sit s) h H) (hkd:kd≠.early) (ok:HidOk H w) {ops:Array Oper} {i:Nat} {rest:List Nat} {o:Oper} (ho:ops[i]?=some o) (hw:Region.wanted o (yielded ops a.tmps)=true) (hok:okOp P (fun _=>false) o=true)
    {g off:Nat} {cells:Array Value} {t:TypeId} {y:Value} (hg:w.heap[g]?=some (.cells cells t (0,0))) (hgH:¬ H g)
    (hp:∀ v,v.heap[g]?=some (.cells cells t (0,0))→(execOp a.eval o).run P v=.ok .skip (v.setCell ⟨g,off,none⟩ y))
    (hq:∀ w',w'.heap[g]?=some (.cells (cells.setIfInBounds off y) t (0,0))→Grow (sit s).st H (fun k=>k=g) w w'→w'.heap.size=w.heap.size→L s (G ((bk f kd).at (a.put o.dst undef) (.inRegion ops rest :: k)) cs) w'):L s (G ((bk f kd).at a (.inRegion ops (i :: rest) :: k)) cs) w:=by
  refine l_maskU O (F:=fun _=>false) (fun f h=>by cases h) hh hkd ok ho hw hok (R:=fun v v'=>v'.heap[g]?=some (.cells (cells.setIfInBounds off y) t (0,0))∧(∀ k,k≠g→v'.heap[k]?=v.heap[k]?)∧v'.heap.size=v.heap.size) (fun v M=>?_) (fun v v' w' M hR A=>?_)
  · have hv:=M.seen hgH hg
    exact ⟨_,hp v hv,setCell_self (a:=⟨g,off,none⟩) y hv rfl,fun k hk=>setCell_ne v ⟨g,off,none⟩ y hk,setCell_size v _ y⟩
  · refine hq w' (A.masked.cells hR.1) (A.grow M fun k _ hk=>hR.2.1 k hk) ?_
    rw [← A.masked.size,hR.2.2,M.size]
end
end Go.Proofs.Ytndppafplgilbaa
namespace Go.Proofs.Ytndppafplgilbaa
open Go Go.Conc
structure AppG (st:Addr) (H:Nat→Prop) (wb:World) (tb o:Nat) (tc:Array Value) (tbT eT:TypeId) (size:Nat) (rv:Value) (n:Nat) (xs xc:List Value) (p:Nat) (x1 x2:Value) (w:World):Prop where
  le:p≤3
  stH:st.spot=none→H st.block
  G:Grow st H (fun k=>(2≤p∧rv.ownBlock=some k)∨(3≤p∧k=tb)) wb w
  tb0:wb.heap[tb]?=some (.cells tc tbT (0,0))∧tc[o]?=some rv∧¬ H tb
  row0:wb.ownsRow 0 eT size rv n xs∧∀ g,rv.ownBlock=some g→¬ H g∧g≠tb
  okH:∀ x,H x→x < wb.heap.size
  s1:p=1→∃ q,x1=.slice (some ⟨q,0,none⟩) 1 1∧w.heap[q]?=some (.cells xc.toArray eT (0,0))∧¬ H q
  s2:2≤p→∃ g cap,x2=.slice (some ⟨g,0,none⟩) (n + 1) cap∧w.ownsRow 0 eT size x2 (n + 1) (xs ++ xc)∧¬ H g∧g≠tb∧(rv.ownBlock=some g∨wb.heap.size≤g)
  s3:3≤p→w.heap[tb]?=some (.cells (tc.setIfInBounds o x2) tbT (0,0))
section
variable {st:Addr} {H:Nat→Prop} {wb w w1 v v':World} {tb o:Nat} {tc:Array Value} {tbT eT:TypeId} {size:Nat} {rv:Value} {n:Nat} {xs xc:List Value} {p:Nat} {x1 x2:Value}
theorem hid_transN (hst:st.spot=none→H st.block) {w' w'':World} (h1:∃ w1,RW st w w1∧∀ k,H k→w'.heap[k]?=w1.heap[k]?) (h2:∃ w2,RW st w' w2∧∀ k,H k→w''.heap[k]?=w2.heap[k]?):∃ w1,RW st w w1∧∀ k,H k→w''.heap[k]?=w1.heap[k]?:=by
  by_cases hs:st.spot=none
  · exact hid_trans (hst hs) h1 h2
  · obtain ⟨w1,r1,h1⟩:=h1
    obtain ⟨w2,r2,h2⟩:=h2
    rcases r2 with ⟨d,rfl⟩ | ⟨n,n₁,d,h3,h4,rfl⟩
    · exact ⟨w1,r1,fun k hk=>(h2 k hk).trans (h1 k hk)⟩
    · obtain ⟨_,_,_,_,h6,_⟩:=cell_some h3
      exact absurd h6 hs
theorem Grow.transN {row row' row'':Nat→Prop} {w' w'':World} (hst:st.spot=none→H st.block) (a:Grow st H row w w') (b:Grow st H row' w' w'') (h1:∀ k,row k→row'' k) (h2:∀ k,k < w.heap.size→row' k→row'' k):Grow st H row'' w w'' :=
  ⟨hid_transN hst a.hid b.hid,b.ok,fun k hk hH hr=>(b.low k (Nat.lt_of_lt_of_le hk a.size) hH fun h=>hr (h2 k hk h)).trans (a.low k hk hH fun h=>hr (h1 k h)),Nat.le_trans a.size b.size⟩
theorem AppG.start (hst:st.spot=none→H st.block) (ok:HidOk H w) (h1:w.heap[tb]?=some (.cells tc tbT (0,0))) (h2:tc[o]?=some rv) (h3:¬ H tb) (h4:w.ownsRow 0 eT size rv n xs) (h5:∀ g,rv.ownBlock=some g→¬ H g∧g≠tb) (x1 x2:Value):AppG st H w tb o tc tbT eT size rv n xs xc 0 x1 x2 w :=
  ⟨by omega,hst,Grow.refl _ ok,⟨h1,h2,h3⟩,⟨h4,h5⟩,fun x hx=>by obtain ⟨c,e,h,_⟩:=ok x hx;exact (Array.getElem?_eq_some_iff.1 h).1,fun h=>(by omega),fun h=>(by omega),fun h=>(by omega)⟩
theorem AppG.lt (X:AppG st H wb tb o tc tbT eT size rv n xs xc p x1 x2 w):tb < w.heap.size:=Nat.lt_of_lt_of_le (Array.getElem?_eq_some_iff.1 X.tb0.1).1 X.G.size
theorem AppG.tbc (X:AppG st H wb tb o tc tbT eT size rv n xs xc p x1 x2 w) (h:p≤2):w.heap[tb]?=some (.cells tc tbT (0,0)):=by
  refine (X.G.low tb (Array.getElem?_eq_some_iff.1 X.tb0.1).1 X.tb0.2.2 fun h'=>?_).trans X.tb0.1
  rcases h' with ⟨_,h'⟩ | ⟨h',_⟩
  · exact (X.row0.2 tb h').2 rfl
  · omega
theorem AppG.c (X:AppG st H wb tb o tc tbT eT size rv n xs xc p x1 x2 w) (h:p≤2):w.cell? ⟨tb,o,none⟩=some rv:=by
  rw [cell_of (a:=⟨tb,o,none⟩) (X.tbc h) rfl];exact X.tb0.2.1
theorem AppG.row (X:AppG st H wb tb o tc tbT eT size rv n xs xc p x1 x2 w) (h:p≤1):w.ownsRow 0 eT size rv n xs :=
  ownsRow_of (fun g hg=>X.G.low g (ownsRow_lt X.row0.1 g hg) (X.row0.2 g hg).1 fun h'=>by rcases h' with ⟨h',_⟩ | ⟨h',_⟩ <;> omega) X.row0.1
theorem AppG.sl (X:AppG st H wb tb o tc tbT eT size rv n xs xc p x1 x2 w) (h:2≤p):∃ a m c,x2=.slice a m c:=by
  obtain ⟨g,cap,rfl,_⟩:=X.s2 h
  exact ⟨_,_,_,rfl⟩
theorem AppG.grow (X:AppG st H wb tb o tc tbT eT size rv n xs xc p x1 x2 w) (G1:Grow st H (fun _=>False) w w1):AppG st H wb tb o tc tbT eT size rv n xs xc p x1 x2 w1:=by
  have low:∀ k,k < w.heap.size→¬ H k→w1.heap[k]?=w.heap[k]?:=fun k h1 h2=>G1.low k h1 h2 id
  refine ⟨X.le,X.stH,X.G.transN X.stH G1 (fun _ h=>h) (fun _ _ h=>h.elim),X.tb0,X.row0,X.okH,fun h=>?_,fun h=>?_,fun h=>?_⟩
  · obtain ⟨q,a1,a2,a3⟩:=X.s1 h
    exact ⟨q,a1,(low q (Array.getElem?_eq_some_iff.1 a2).1 a3).trans a2,a3⟩
  · obtain ⟨g,cap,rfl,a2,a3⟩:=X.s2 h
    exact ⟨g,cap,rfl,ownsRow_of (fun g' hg=>by cases hg;exact low g (ownsRow_lt a2 g rfl) a3.1) a2,a3⟩
  · exact (low tb X.lt X.tb0.2.2).trans (X.s3 h)
theorem AppG.built (X:AppG st H wb tb o tc tbT eT size rv n xs xc 0 x1 x2 w) (M:Masked H 0 v w) (A:Alone st H w (v.alloc (.cells xc.toArray eT)) w1):AppG st H wb tb o tc tbT eT size rv n xs xc 1 (.slice (some ⟨v.heap.size,0,none⟩) 1 1) x2 w1:=by
  have G1:Grow st H (fun _=>False) w w1:=A.grow M fun k hk _=>by
    show (v.heap.push _)[k]?=_
    rw [Array.getElem?_push_lt hk,Array.getElem?_eq_getElem hk]
  have X1:=X.grow G1
  refine ⟨by omega,X.stH,⟨X1.G.hid,X1.G.ok,fun k h1 h2 h3=>X1.G.low k h1 h2 fun h=>by rcases h with ⟨h,_⟩ | ⟨h,_⟩ <;> omega,X1.G.size⟩,X.tb0,X.row0,X.okH,fun _=>⟨_,rfl,A.masked.cells (show (v.heap.push _)[v.heap.size]?=_ by simp),fun hh=>?_⟩,fun h=>(by omega),fun h=>(by omega)⟩
  have h1:=X.okH _ hh
  have h2:v.heap.size=w.heap.size:=M.size
  have h3:=X.G.size
  omega
theorem AppG.appended (X:AppG st H wb tb o tc tbT eT size rv n xs xc 1 x1 x2 w) {g cap:Nat} (hown:w1.ownsRow 0 eT size (.slice (some ⟨g,0,none⟩) (n + 1) cap) (n + 1) (xs ++ xc)) (G1:Grow st H (fun k=>rv.ownBlock=some k) w w1) (hg:rv.ownBlock=some g∨g=w.heap.size):AppG st H wb tb o tc tbT eT size rv n xs xc 2 x1 (.slice (some ⟨g,0,none⟩) (n + 1) cap) w1:=by
  have hs:=X.G.size
  refine ⟨by omega,X.stH,X.G.transN X.stH G1 (fun k h=>?_) (fun k _ h=>.inl ⟨by omega,h⟩),X.tb0,X.row0,X.okH,fun h=>(by omega),fun _=>⟨g,cap,rfl,hown,?_⟩,fun h=>(by omega)⟩
  · rcases h with ⟨h,_⟩ | ⟨h,_⟩ <;> omega
  · have ht:=(Array.getElem?_eq_some_iff.1 X.tb0.1).1
    rcases hg with h | h
    · exact ⟨(X.row0.2 g h).1,(X.row0.2 g h).2,.inl h⟩
    · exact ⟨fun hh=>by have:=X.okH g hh;omega,by omega,.inr (by omega)⟩
theorem AppG.stored (X:AppG st H wb tb o tc tbT eT size rv n xs xc 2 x1 x2 w) (hw:w1.heap[tb]?=some (.cells (tc.setIfInBounds o x2) tbT (0,0))) (G1:Grow st H (fun k=>k=tb) w w1):AppG st H wb tb o tc tbT eT size rv n xs xc 3 x1 x2 w1:=by
  refine ⟨by omega,X.stH,X.G.transN X.stH G1 (fun k h=>?_) (fun k _ h=>.inr ⟨by omega,h⟩),X.tb0,X.row0,X.okH,fun h=>(by omega),fun _=>?_,fun _=>hw⟩
  · rcases h with ⟨_,h⟩ | ⟨h,_⟩
    · exact .inl ⟨by omega,h⟩
    · omega
  · obtain ⟨g,cap,rfl,a2,a3,a4,a5⟩:=X.s2 (by omega)
    refine ⟨g,cap,rfl,ownsRow_of (fun g' hg=>?_) a2,a3,a4,a5⟩
    cases hg
    exact G1.low g (ownsRow_lt a2 g rfl) a3 a4
theorem AppG.done (X:AppG st H wb tb o tc tbT eT size rv n xs xc 3 x1 x2 w):Grow st H (fun k=>rv.ownBlock=some k∨k=tb) wb w∧w.heap[tb]?=some (.cells (tc.setIfInBounds o x2) tbT (0,0))∧w.ownsRow 0 eT size x2 (n + 1) (xs ++ xc)∧∀ g,x2.ownBlock=some g→¬ H g∧g≠tb∧(rv.ownBlock=some g∨wb.heap.size≤g):=by
  obtain ⟨g,cap,rfl,a2,a3,a4,a5⟩:=X.s2 (by omega)
  refine ⟨⟨X.G.hid,X.G.ok,fun k h1 h2 h3=>X.G.low k h1 h2 fun h=>h3 (h.imp (·.2) (·.2)),X.G.size⟩,X.s3 (by omega),a2,fun g' hg=>?_⟩
  cases hg
  exact ⟨a3,a4,a5⟩
end
end Go.Proofs.Ytndppafplgilbaa
