/-
  larchlaw04.BatonThins returns true for every input. No condition. (Part 32 of 49; joined by program.)
-/
import Derived.Test.YtndppafplgilbaaL31
set_option linter.unusedVariables false
set_option linter.unusedSimpArgs false
set_option linter.unusedSectionVars false
set_option maxRecDepth 100000
namespace Go.Proofs.Ytndppafplgilbaa
open Go Go.Conc Go.RowKit
open Go.ConcN (sumTo upd sumTo_upd upd_ne upd_same)
section
variable {l:PL} {ok:l.Ok} {n0 gb i:Nat} {k:Wk} {fb:Nat} {Post:Value→World→Prop}
structure Ph (l:PL) (ok:l.Ok) (n0 gb i:Nat) (k:Wk) (fb:Nat) (gh:Gst (PlayCli l ok)) (Γ':PG) (A:Value) (a:A4) (r:List A4) (at_ tb p:Nat) (x33 x34 x35:Value) (s':Gst (PlayCli l ok)) (w':World):Prop where
  le:p≤4
  ex:∃ (Γb:PG) (wb:World),Run (PlayCli l ok) n0 gb i k fb s' Γb wb∧Γb.pos i=some (a :: r)∧Γb.av i=A∧Grow (c0 gb 1) s'.gm.H (fun x=>(1≤p∧x=l.nb at_)∨(3≤p∧A.ownBlock=some x)∨(4≤p∧x=l.ansB)) wb w' ∧
    (p=0→s'=gh∧Γb=Γ')∧(1≤p→Γb=s'.Γ∧NumC (l.nb at_) (numNew a.k (Γb.cs.getD at_ 0) a.a a.b) w'∧x33=.int .i64 (numAns a.k (Γb.cs.getD at_ 0) a.a)) ∧
    (p=2→∃ q,x34=.slice (some ⟨q,0,none⟩) 1 1∧w'.heap[q]?=some (.cells #[x33] 3 (0,0))∧¬ s'.gm.H q) ∧
    (3≤p→∃ g cap,x35=.slice (some ⟨g,0,none⟩) ((Γb.ans i).length + 1) cap∧w'.ownsRow 0 3 1 x35 ((Γb.ans i).length + 1) ((Γb.ans i ++ [numAns a.k (Γb.cs.getD at_ 0) a.a]).map (Value.int .i64))∧(A.ownBlock=some g∨wb.heap.size≤g)) ∧
    (4≤p→w'.heap[l.ansB]?=some (.cells ((avArr l.n Γb.av).setIfInBounds i x35) 22 (0,0)))
  tb:p=0→w'.heap[tb]?=some (.cells #[.int .i64 a.k,.int .i64 a.at_,.int .i64 a.a,.int .i64 a.b] 103 (0,0))∧¬ s'.gm.H tb
variable {gh s':Gst (PlayCli l ok)} {Γ':PG} {A:Value} {a:A4} {r:List A4} {at_ tb p:Nat} {x33 x34 x35:Value} {w' w1 v v':World}
theorem Ph.seat (X:Ph l ok n0 gb i k fb gh Γ' A a r at_ tb p x33 x34 x35 s' w'):∃ st,s'.gm.ws[i]?=some (k,st):=by
  obtain ⟨_,_,E,_⟩:=X.ex
  exact ⟨_,E.mid.at_⟩
theorem Ph.hidOk (X:Ph l ok n0 gb i k fb gh Γ' A a r at_ tb p x33 x34 x35 s' w'):HidOk s'.gm.H w':=by
  obtain ⟨_,_,E,_,_,G,_⟩:=X.ex
  exact G.ok
theorem Ph.hgb (X:Ph l ok n0 gb i k fb gh Γ' A a r at_ tb p x33 x34 x35 s' w'):s'.gm.gb=gb:=by
  obtain ⟨_,_,E,_⟩:=X.ex
  exact E.mid.hgb
theorem Ph.fixed (hi:i < l.n) (hat:at_ < l.m) (X:Ph l ok n0 gb i k fb gh Γ' A a r at_ tb p x33 x34 x35 s' w') {x:Nat} (hx:l.fix x):w'.heap[x]?=l.w0.heap[x]?∧¬ s'.gm.H x:=by
  obtain ⟨Γb,wb,E,hp,hA,G,_⟩:=X.ex
  have hf:playFoot l Γb x:=.inl hx
  have M:PlayM l Γb wb:=E.mid.did.M
  have hH:¬ s'.gm.H x:=fun h=>E.mid.Hfoot h hf
  refine ⟨(G.low x (E.mid.low hf) hH fun h=>?_).trans (M.fixed x hx),hH⟩
  rcases h with ⟨_,h⟩ | ⟨_,h⟩ | ⟨_,h⟩
  · exact (ok.num _ hat).1 (h ▸ hx)
  · exact (M.sep i hi x (by rw [hA];exact h)).1 hx
  · exact ok.ans (h ▸ hx)
theorem Ph.arr (hi:i < l.n) (hat:at_ < l.m) (X:Ph l ok n0 gb i k fb gh Γ' A a r at_ tb p x33 x34 x35 s' w') (hp:p≤3):(∃ Γb:PG,w'.heap[l.ansB]?=some (.cells (avArr l.n Γb.av) 22 (0,0))∧Γb.av i=A)∧¬ s'.gm.H l.ansB:=by
  obtain ⟨Γb,wb,E,_,hA,G,_⟩:=X.ex
  have hf:playFoot l Γb l.ansB:=.inr (.inl rfl)
  have M:PlayM l Γb wb:=E.mid.did.M
  have hH:¬ s'.gm.H l.ansB:=fun h=>E.mid.Hfoot h hf
  refine ⟨⟨Γb,(G.low _ (E.mid.low hf) hH fun h=>?_).trans M.arr,hA⟩,hH⟩
  rcases h with ⟨_,h⟩ | ⟨_,h⟩ | ⟨h,_⟩
  · exact (ok.num _ hat).2.1 h.symm
  · exact (M.sep i hi _ (by rw [hA];exact h)).2.1 rfl
  · omega
theorem Ph.arrCell (hi:i < l.n) (hat:at_ < l.m) (X:Ph l ok n0 gb i k fb gh Γ' A a r at_ tb p x33 x34 x35 s' w') (hp:p≤3):w'.cell? ⟨l.ansB,i,none⟩=some A:=by
  obtain ⟨⟨Γb,h1,h2⟩,_⟩:=X.arr hi hat hp
  exact cell_of_heap h1 (by rw [avArr_at hi,h2])
theorem Ph.grow (X:Ph l ok n0 gb i k fb gh Γ' A a r at_ tb p x33 x34 x35 s' w') (G1:Grow (c0 gb 1) s'.gm.H (fun _=>False) w' w1) (hi:i < l.n) (hat:at_ < l.m):Ph l ok n0 gb i k fb gh Γ' A a r at_ tb p x33 x34 x35 s' w1:=by
  obtain ⟨Γb,wb,E,hp,hA,G,h0,h1,h2,h3,h4⟩:=X.ex
  have hgH:s'.gm.H (c0 gb 1).block:=.inl E.mid.hgb.symm
  have M:PlayM l Γb wb:=E.mid.did.M
  have low:∀ x,x < w'.heap.size→¬ s'.gm.H x→w1.heap[x]?=w'.heap[x]?:=fun x h h'=>G1.low x h h' id
  have lowF:∀ x,playFoot l Γb x→w1.heap[x]?=w'.heap[x]?:=fun x hx=>low x (Nat.lt_of_lt_of_le (E.mid.low hx) G.size) fun h=>E.mid.Hfoot h hx
  refine ⟨X.le,⟨Γb,wb,E,hp,hA,G.trans hgH G1 (fun _ h=>h) (fun _ _ h=>h.elim),h0,fun h=>?_,fun h=>?_,fun h=>?_,fun h=>?_⟩,fun h=>?_⟩
  · obtain ⟨a1,a2,a3⟩:=h1 h
    exact ⟨a1,(lowF _ (.inr (.inr (.inl ⟨_,hat,rfl⟩)))).trans a2,a3⟩
  · obtain ⟨q,a1,a2,a3⟩:=h2 h
    exact ⟨q,a1,(low q (Array.getElem?_eq_some_iff.1 a2).1 a3).trans a2,a3⟩
  · obtain ⟨g,cap,rfl,a2,a3⟩:=h3 h
    refine ⟨g,cap,rfl,ownsRow_of (fun g' hg=>?_) a2,a3⟩
    cases hg
    rcases a3 with a3 | a3
    · exact lowF g (.inr (.inr (.inr ⟨i,hi,by rw [hA];exact a3⟩)))
    · refine low g (ownsRow_lt a2 g rfl) fun hh=>?_
      have:=E.mid.H_low g hh
      have:=E.mid.did.size
      omega
  · exact (lowF _ (.inr (.inl rfl))).trans (h4 h)
  · obtain ⟨a1,a2⟩:=X.tb h
    exact ⟨(low tb (Array.getElem?_eq_some_iff.1 a1).1 a2).trans a1,a2⟩
theorem Ph.start (E:Run (PlayCli l ok) n0 gb i k fb gh Γ' w') (hp:Γ'.pos i=some (a :: r)) (htb:w'.heap[tb]?=some (.cells #[.int .i64 a.k,.int .i64 a.at_,.int .i64 a.a,.int .i64 a.b] 103 (0,0))) (htH:¬ gh.gm.H tb) (x33 x34 x35:Value):Ph l ok n0 gb i k fb gh Γ' (Γ'.av i) a r at_ tb 0 x33 x34 x35 gh w' :=
  ⟨by omega,⟨Γ',w',E,hp,rfl,Grow.refl _ E.mid.did.hidOk,fun _=>⟨rfl,rfl⟩,fun h=>(by omega),fun h=>(by omega),fun h=>(by omega),fun h=>(by omega)⟩,fun _=>⟨htb,htH⟩⟩
theorem Ph.run0 (X:Ph l ok n0 gb i k fb gh Γ' A a r at_ tb 0 x33 x34 x35 s' w') (hi:i < l.n):s'=gh∧Run (PlayCli l ok) n0 gb i k fb gh Γ' w':=by
  obtain ⟨Γb,wb,E,hp,hA,G,h0,_⟩:=X.ex
  obtain ⟨rfl,rfl⟩:=h0 rfl
  have G':Grow (c0 gb 1) s'.gm.H (fun _=>False) wb w':=⟨G.hid,G.ok,fun x h1 h2 h3=>G.low x h1 h2 fun h=>by rcases h with ⟨h,_⟩ | ⟨h,_⟩ | ⟨h,_⟩ <;> omega,G.size⟩
  exact ⟨rfl,E.newer G'⟩
theorem Ph.acted {gh':Gst (PlayCli l ok)} {wp w2:World} {vv:Int} (hat:at_ < l.m) (E:Run (PlayCli l ok) n0 gb i k fb gh' gh'.Γ wp) (hown:gh'.Γ.pos i=some (a :: r)∧gh'.Γ.av i=A) (was:NumC (l.nb at_) vv wp) (now:NumC (l.nb at_) (numNew a.k vv a.a a.b) w2) (G:Grow (c0 gb 1) gh'.gm.H (fun x=>x=l.nb at_) wp w2) (x34 x35:Value) :
    Ph l ok n0 gb i k fb gh Γ' A a r at_ tb 1 (.int .i64 (numAns a.k vv a.a)) x34 x35 gh' w2:=by
  have M:PlayM l gh'.Γ wp:=E.mid.did.M
  have e:gh'.Γ.cs.getD at_ 0=vv:=by
    have h1:wp.heap[l.nb at_]?=some (.cells #[.int .i64 (gh'.Γ.cs.getD at_ 0)] 139 (0,0)):=M.nums _ hat
    have was:wp.heap[l.nb at_]?=some (.cells #[.int .i64 vv] 139 (0,0)):=was
    rw [was] at h1
    simpa using h1.symm
  refine ⟨by omega,⟨gh'.Γ,wp,E,hown.1,hown.2,⟨G.hid,G.ok,fun x h1 h2 h3=>G.low x h1 h2 fun h=>h3 (.inl ⟨Nat.le_refl _,h⟩),G.size⟩,fun h=>(by omega),fun _=>⟨rfl,by rw [e];exact now,by rw [e]⟩,fun h=>(by omega),fun h=>(by omega),fun h=>(by omega)⟩,fun h=>(by omega)⟩
theorem Ph.built (X:Ph l ok n0 gb i k fb gh Γ' A a r at_ tb 1 x33 x34 x35 s' w') (hi:i < l.n) (hat:at_ < l.m) (M:Masked s'.gm.H 0 v w') (Al:Alone (c0 gb 1) s'.gm.H w' (v.alloc (.cells #[x33] 3)) w1):Ph l ok n0 gb i k fb gh Γ' A a r at_ tb 2 x33 (.slice (some ⟨v.heap.size,0,none⟩) 1 1) x35 s' w1:=by
  have G1:Grow (c0 gb 1) s'.gm.H (fun _=>False) w' w1:=Al.grow M fun k hk _=>by
    show (v.heap.push _)[k]?=_
    rw [Array.getElem?_push_lt hk,Array.getElem?_eq_getElem hk]
  have X1:=X.grow G1 hi hat
  obtain ⟨Γb,wb,E,hp,hA,G,h0,h1,h2,h3,h4⟩:=X1.ex
  refine ⟨by omega,⟨Γb,wb,E,hp,hA,⟨G.hid,G.ok,fun x a1 a2 a3=>G.low x a1 a2 fun h=>a3 ?_,G.size⟩,fun h=>(by omega),fun _=>h1 (by omega),fun _=>⟨_,rfl,Al.masked.cells (show (v.heap.push _)[v.heap.size]?=_ by simp),fun hh=>?_⟩,fun h=>(by omega),fun h=>(by omega)⟩,fun h=>(by omega)⟩
  · rcases h with ⟨_,h⟩ | ⟨h,_⟩ | ⟨h,_⟩
    · exact .inl ⟨by omega,h⟩
    · omega
    · omega
  · have hlt:=E.mid.H_low _ hh
    have h5:=E.mid.did.size
    have h6:v.heap.size=w'.heap.size:=M.size
    obtain ⟨_,wb2,E2,_,_,G2,_⟩:=X.ex
    have:=E2.mid.did.size
    have:=G2.size
    omega
theorem Ph.appended (X:Ph l ok n0 gb i k fb gh Γ' A a r at_ tb 2 x33 x34 x35 s' w') (hi:i < l.n) (hat:at_ < l.m) {Γb:PG} (hb:Γb=s'.Γ) {g cap:Nat} (hown:w1.ownsRow 0 3 1 (.slice (some ⟨g,0,none⟩) ((Γb.ans i).length + 1) cap) ((Γb.ans i).length + 1) ((Γb.ans i).map (Value.int .i64) ++ [x33]))
    (G1:Grow (c0 gb 1) s'.gm.H (fun x=>A.ownBlock=some x) w' w1) (hg:A.ownBlock=some g∨g=w'.heap.size):Ph l ok n0 gb i k fb gh Γ' A a r at_ tb 3 x33 x34 (.slice (some ⟨g,0,none⟩) ((Γb.ans i).length + 1) cap) s' w1:=by
  obtain ⟨Γc,wb,E,hp,hA,G,h0,h1,h2,h3,h4⟩:=X.ex
  obtain ⟨e,hn,hx⟩:=h1 (by omega)
  subst hb
  subst e
  subst hx
  have hgH:s'.gm.H (c0 gb 1).block:=.inl E.mid.hgb.symm
  have M:PlayM l s'.Γ wb:=E.mid.did.M
  have lowF:∀ x,playFoot l s'.Γ x→A.ownBlock≠some x→w1.heap[x]?=w'.heap[x]?:=fun x hx hne=>G1.low x (Nat.lt_of_lt_of_le (E.mid.low hx) G.size) (fun h=>E.mid.Hfoot h hx) hne
  refine ⟨by omega,⟨s'.Γ,wb,E,hp,hA,G.trans hgH G1 (fun x h=>?_) (fun x _ h=>.inr (.inl ⟨by omega,h⟩)),fun h=>(by omega),fun _=>⟨rfl,(lowF _ (.inr (.inr (.inl ⟨_,hat,rfl⟩))) fun e'=>?_).trans hn,rfl⟩,fun h=>(by omega),fun _=>⟨g,cap,rfl,by simpa using hown,?_⟩,fun h=>(by omega)⟩,fun h=>(by omega)⟩
  · rcases h with ⟨_,h⟩ | ⟨h,_⟩ | ⟨h,_⟩
    · exact .inl ⟨by omega,h⟩
    · omega
    · omega
  · exact (M.sep i hi _ (by rw [hA];exact e')).2.2.1 _ hat rfl
  · rcases hg with h | h
    · exact .inl h
    · exact .inr (by rw [h];exact G.size)
theorem Ph.stored (X:Ph l ok n0 gb i k fb gh Γ' A a r at_ tb 3 x33 x34 x35 s' w') (hi:i < l.n) (hat:at_ < l.m) {cells:Array Value} (hc:w'.heap[l.ansB]?=some (.cells cells 22 (0,0))) (hw:w1.heap[l.ansB]?=some (.cells (cells.setIfInBounds i x35) 22 (0,0))) (G1:Grow (c0 gb 1) s'.gm.H (fun x=>x=l.ansB) w' w1):Ph l ok n0 gb i k fb gh Γ' A a r at_ tb 4 x33 x34 x35 s' w1:=by
  obtain ⟨Γb,wb,E,hp,hA,G,h0,h1,h2,h3,h4⟩:=X.ex
  obtain ⟨e,hn,hx⟩:=h1 (by omega)
  have hgH:s'.gm.H (c0 gb 1).block:=.inl E.mid.hgb.symm
  have M:PlayM l Γb wb:=E.mid.did.M
  have lowF:∀ x,playFoot l Γb x→x≠l.ansB→w1.heap[x]?=w'.heap[x]?:=fun x hx hne=>G1.low x (Nat.lt_of_lt_of_le (E.mid.low hx) G.size) (fun h=>E.mid.Hfoot h hx) hne
  have hfa:playFoot l Γb l.ansB:=.inr (.inl rfl)
  have hc':cells=avArr l.n Γb.av:=by
    have h5:=(G.low _ (E.mid.low hfa) (fun h=>E.mid.Hfoot h hfa) fun h=>?_).trans M.arr
    · rw [hc] at h5
      injection h5 with h5
      injection h5
    · rcases h with ⟨_,h⟩ | ⟨_,h⟩ | ⟨h,_⟩
      · exact (ok.num _ hat).2.1 h.symm
      · exact (M.sep i hi _ (by rw [hA];exact h)).2.1 rfl
      · omega
  obtain ⟨g,cap,rfl,a2,a3⟩:=h3 (by omega)
  refine ⟨by omega,⟨Γb,wb,E,hp,hA,G.trans hgH G1 (fun x h=>?_) (fun x _ h=>.inr (.inr ⟨Nat.le_refl _,h⟩)),fun h=>(by omega),fun _=>⟨e,(lowF _ (.inr (.inr (.inl ⟨_,hat,rfl⟩))) (ok.num _ hat).2.1).trans hn,hx⟩,fun h=>(by omega),fun _=>⟨g,cap,rfl,ownsRow_of (fun g' hg'=>?_) a2,a3⟩,fun _=>by rw [← hc'];exact hw⟩,fun h=>(by omega)⟩
  · rcases h with ⟨_,h⟩ | ⟨_,h⟩ | ⟨h,_⟩
    · exact .inl ⟨by omega,h⟩
    · exact .inr (.inl ⟨by omega,h⟩)
    · omega
  · cases hg'
    rcases a3 with a3 | a3
    · exact lowF g (.inr (.inr (.inr ⟨i,hi,by rw [hA];exact a3⟩))) (M.sep i hi g (by rw [hA];exact a3)).2.1
    · refine G1.low g (ownsRow_lt a2 g rfl) (fun hh=>?_) fun hh=>?_
      · have:=E.mid.H_low g hh
        have:=E.mid.did.size
        omega
      · have:=E.mid.low hfa
        omega
theorem Ph.val (X:Ph l ok n0 gb i k fb gh Γ' A a r at_ tb p x33 x34 x35 s' w') (h:1≤p):∃ z,x33=.int .i64 z:=by
  obtain ⟨Γb,wb,E,hp,hA,G,h0,h1,h2,h3,h4⟩:=X.ex
  exact ⟨_,(h1 h).2.2⟩
theorem Ph.new1 (X:Ph l ok n0 gb i k fb gh Γ' A a r at_ tb 2 x33 x34 x35 s' w'):∃ q,x34=.slice (some ⟨q,0,none⟩) 1 1∧w'.heap[q]?=some (.cells #[x33] 3 (0,0))∧¬ s'.gm.H q:=by
  obtain ⟨Γb,wb,E,hp,hA,G,h0,h1,h2,h3,h4⟩:=X.ex
  exact h2 rfl
theorem Ph.sl (X:Ph l ok n0 gb i k fb gh Γ' A a r at_ tb p x33 x34 x35 s' w') (h:3≤p):∃ a n c,x35=.slice a n c:=by
  obtain ⟨Γb,wb,E,hp,hA,G,h0,h1,h2,h3,h4⟩:=X.ex
  obtain ⟨g,cap,rfl,_⟩:=h3 h
  exact ⟨_,_,_,rfl⟩
theorem Ph.rowA (X:Ph l ok n0 gb i k fb gh Γ' A a r at_ tb 2 x33 x34 x35 s' w') (hi:i < l.n) (hat:at_ < l.m):w'.ownsRow 0 3 1 A (s'.Γ.ans i).length ((s'.Γ.ans i).map (Value.int .i64))∧(∀ g,A.ownBlock=some g→¬ s'.gm.H g)∧(s'.Γ.ans i).length≤1000:=by
  obtain ⟨Γb,wb,E,hp,hA,G,h0,h1,h2,h3,h4⟩:=X.ex
  obtain ⟨e,hn,hx⟩:=h1 (by omega)
  have M:PlayM l Γb wb:=E.mid.did.M
  subst e
  have hf:∀ g,A.ownBlock=some g→playFoot l s'.Γ g:=fun g hg=>.inr (.inr (.inr ⟨i,hi,by rw [hA];exact hg⟩))
  refine ⟨ownsRow_of (fun g hg=>G.low g (E.mid.low (hf g hg)) (fun h=>E.mid.Hfoot h (hf g hg)) fun h=>?_) (by rw [← hA];exact M.rows i hi),fun g hg h=>E.mid.Hfoot h (hf g hg),by have:=M.few i hi;omega⟩
  rcases h with ⟨_,h⟩ | ⟨h,_⟩ | ⟨h,_⟩
  · exact (M.sep i hi g (by rw [hA];exact hg)).2.2.1 _ hat h
  · omega
  · omega
theorem Ph.done (X:Ph l ok n0 gb i k fb gh Γ' A a r at_ tb 4 x33 x34 x35 s' w') (hi:i < l.n) (hat:at_ < l.m) (ha:a.at_=at_):∃ Γ'':PG,playNext l i s'.Γ Γ''∧Run (PlayCli l ok) n0 gb i k fb s' Γ'' w'∧Γ''.pos i=some r:=by
  obtain ⟨Γb,wb,E,hp,hA,G,h0,h1,h2,h3,h4⟩:=X.ex
  obtain ⟨e,hn,hx⟩:=h1 (by omega)
  obtain ⟨g,cap,e5,a2,a3⟩:=h3 (by omega)
  have M:PlayM l Γb wb:=E.mid.did.M
  have hv:∀ g',x35.ownBlock=some g'→(Γb.av i).ownBlock=some g'∨wb.heap.size≤g':=fun g' hg=>by
    rw [e5] at hg
    cases hg
    rw [hA];exact a3
  have G':Grow (c0 gb 1) s'.gm.H (fun k=>k=l.nb at_∨(Γb.av i).ownBlock=some k∨k=l.ansB) wb w':=⟨G.hid,G.ok,fun x b1 b2 b3=>G.low x b1 b2 fun h=>b3 (by
    rcases h with ⟨_,h⟩ | ⟨_,h⟩ | ⟨_,h⟩
    · exact .inl h
    · exact .inr (.inl (by rw [hA];exact h))
    · exact .inr (.inr h)),G.size⟩
  refine ⟨playStep Γb i a r x35,?_,E.grow G' (PlayM.step ok M hi hp ha hat G' (fun k hk h=>E.mid.Hfoot h hk) hn (h4 (by omega)) a2 hv) (playStep_foot hv hi) (fun x hx _=>.inl ?_),upd_same ..⟩
  · unfold playNext
    rw [← e,hp]
    exact ⟨x35,rfl⟩
  · rcases hx with h | h | h
    · exact .inr (.inr (.inl ⟨at_,hat,h⟩))
    · exact .inr (.inr (.inr ⟨i,hi,h⟩))
    · exact .inr (.inl h)
end
end Go.Proofs.Ytndppafplgilbaa
