/-
  larchlaw04.BatonThins returns true for every input. No condition. (Part 37 of 49; joined by program.)
-/
import Derived.Test.YtndppafplgilbaaL29
import Derived.Test.YtndppafplgilbaaL20
import Derived.Test.YtndppafplgilbaaL36
import Derived.Test.YtndppafplgilbaaL33
import Derived.Test.YtndppafplgilbaaL21
import Derived.Test.YtndppafplgilbaaL17
set_option linter.unusedVariables false
set_option linter.unusedSimpArgs false
set_option linter.unusedSectionVars false
set_option maxRecDepth 100000
namespace Go.Proofs.Ytndppafplgilbaa
open Go Go.Conc Go.RowKit
open Go.ConcN (sumTo upd sumTo_upd upd_ne upd_same)
def endV (C:Cli) (Γ:C.G) (i:Nat):Bool:=(C.stand (C.own i Γ)).isNone
def panV (C:Cli) (Γ:C.G) (i:Nat):Bool:=(C.stand (C.own i Γ)).isNone && C.pan (C.own i Γ)
def endsV (C:Cli) (Γ:C.G) (n:Nat):List Value:=(List.range n).map fun i=>.bool (endV C Γ i)
def pansV (C:Cli) (Γ:C.G) (n:Nat):List Value:=(List.range n).map fun i=>.bool (panV C Γ i)
theorem endsV_len (C:Cli) (Γ:C.G) (n:Nat):(endsV C Γ n).length=n:=by simp [endsV]
theorem pansV_len (C:Cli) (Γ:C.G) (n:Nat):(pansV C Γ n).length=n:=by simp [pansV]
theorem endsV_succ (C:Cli) (Γ:C.G) (n:Nat):endsV C Γ (n + 1)=endsV C Γ n ++ [.bool (endV C Γ n)]:=by simp [endsV,List.range_succ]
theorem pansV_succ (C:Cli) (Γ:C.G) (n:Nat):pansV C Γ (n + 1)=pansV C Γ n ++ [.bool (panV C Γ n)]:=by simp [pansV,List.range_succ]
noncomputable def closeRest:Code:=seqR (seqR (seqR (Try.f55.body.getD .skip)))
section
variable {C:Cli} {ty pty:TypeId} {P:Program} {Post:Value→World→Prop} {gm:Gm} {Γ:C.G} {keep dead:Nat→Prop} {w:World}
theorem Main.panicOff (MW:Main C ty pty P Post gm Γ keep dead w) {i:Nat} {k:Wk} (hi:gm.ws[i]?=some (k,.done)) (hd:dead i) (y:Bool):Main C ty pty P Post gm Γ keep dead (w.setCell (c0 k.blk 5) (.bool y)):=by
  have hmem:=Gm.at hi
  have hkH:gm.H k.blk:=.inr (.inr ⟨_,hmem,.inl rfl⟩)
  have hself:=MW.wf.self _ hmem
  have hne:∀ x,x≠k.blk→(w.setCell (c0 k.blk 5) (.bool y)).heap[x]?=w.heap[x]?:=fun x hx=>setCell_ne w (c0 k.blk 5) _ hx
  obtain ⟨kd,ov,pn,hwk⟩:∃ kd ov pn,WkAt ty k kd true ov pn w:=by
    rcases (MW.ws i _ hi).st with ⟨h,_⟩ | ⟨_,h⟩
    · exact absurd hd h
    · exact h
  have hwk':=hwk.panics (pn':=y)
  refine ⟨MW.wf,Gm.K_own MW.wf hi (by omega) MW.K,C.stable _ _ _ MW.M fun x hx=>hne x fun e=>MW.Hfoot _ hkH (e ▸ hx),fun x hx=>?_,MW.Hfoot,MW.chfoot,MW.bxfoot,fun x hx=>?_,fun j q hj=>?_⟩
  · by_cases ex:x=k.blk
    · subst ex;exact ⟨_,_,hwk',by simp⟩
    · obtain ⟨c,e,h1,h2⟩:=MW.hid x hx
      exact ⟨c,e,(hne x ex).trans h1,h2⟩
  · obtain ⟨a,b,c,d⟩:=MW.kpfoot x hx
    exact ⟨a,b,c,by rw [setCell_size];exact d⟩
  · have W:=MW.ws j q hj
    have hqm:=Gm.at hj
    have eT:q.1.turn≠k.blk:=fun e=>MW.wf.chanH ⟨q,hqm,.inl rfl⟩ (e ▸ hkH)
    have eB:q.1.back≠k.blk:=fun e=>MW.wf.chanH ⟨q,hqm,.inr rfl⟩ (e ▸ hkH)
    refine ⟨by obtain ⟨n,h⟩:=W.back;exact ⟨n,(hne _ eB).trans h⟩,by obtain ⟨cl,n,h⟩:=W.turn;exact ⟨cl,n,(hne _ eT).trans h⟩,?_⟩
    by_cases eji:j=i
    · subst eji
      rw [hi] at hj
      cases hj
      exact .inr ⟨hd,_,_,_,hwk'⟩
    · have eK:q.1.blk≠k.blk:=fun e=>MW.wf.other j i q _ hj hi eji q.1.blk (by simp [Wk.nums]) (by rw [e];simp [Wk.nums])
      have Ws:=W.st
      obtain ⟨kq,sq⟩:=q
      cases sq with
      | sits hm fq =>
        obtain ⟨⟨kd',h1,h2⟩,⟨m,h3⟩,h4,h5⟩:=Ws
        refine ⟨⟨kd',h1,(hne _ eK).trans h2⟩,⟨m,(hne _ eT).trans h3⟩,?_,h5⟩
        exact (hne fq fun e=>(MW.bxfoot fq ⟨_,hqm,hm,rfl⟩).2 (e ▸ hkH)).trans h4
      | done =>
        rcases Ws with ⟨h0,h1,kd',ov',h2⟩ | ⟨h0,kd',ov',pn',h2⟩
        · exact .inl ⟨h0,h1,kd',ov',(hne _ eK).trans h2⟩
        · exact .inr ⟨h0,kd',ov',pn',(hne _ eK).trans h2⟩
      | gone=>exact Ws
theorem Main.deadIff (MW:Main C ty pty P Post gm Γ keep dead w) {dead':Nat→Prop} (h:∀ i,i < gm.ws.length→(dead i ↔ dead' i)):Main C ty pty P Post gm Γ keep dead' w:=by
  refine { MW with ws:=fun i p hi=>?_ }
  have W:=MW.ws i p hi
  have hd:=h i (List.getElem?_eq_some_iff.1 hi).1
  refine ⟨W.back,W.turn,?_⟩
  have Ws:=W.st
  obtain ⟨k,st⟩:=p
  cases st with
  | sits home fb=>exact Ws
  | done =>
    rcases Ws with ⟨a,b⟩ | ⟨a,b⟩
    · exact .inl ⟨fun h=>a (hd.2 h),b⟩
    · exact .inr ⟨hd.1 a,b⟩
  | gone=>exact Ws
end
section
variable {C:Cli} {Post:Value→World→Prop} {Γ:C.G} {keep:Nat→Prop} {w0:World} {old:List Nat} {gb n0 N tb rb:Nat} {V:List Value} {wsv stv:Value}
structure CloseJ (C:Cli) (Post:Value→World→Prop) (Γ:C.G) (keep:Nat→Prop) (w0:World) (old:List Nat) (gb n0 N tb rb:Nat) (V:List Value) (wsv stv:Value) (j:Nat) (ws:List (Wk × St)) (ev pv:Value) (w:World):Prop where
  hlen:ws.length=N
  hV:wsV ⟨old,gb,n0,ws⟩=V
  gone:∀ i,i < j→∃ k,ws[i]?=some (k,.done)
  MW:MainB C Post ⟨old,gb,n0,ws⟩ Γ keep (fun i=>i < j∧endV C Γ i=false) w
  hg:GmG gb wsv stv w
  row:w.ownsRow 0 wkP 1 wsv N V∧∀ g,wsv.ownBlock=some g→keep g
  hrb:w.heap[rb]?=some (.cells #[.slice none 0 0,.slice none 0 0,.slice none 0 0] toldT (0,0))∧Own C ⟨old,gb,n0,ws⟩ Γ keep rb
  htb:w.heap[tb]?=some (.cells #[stv,ev,pv] toldT (0,0))∧Own C ⟨old,gb,n0,ws⟩ Γ keep tb∧tb≠rb
  hev:w.ownsRow 0 boolT 1 ev j (endsV C Γ j)∧∀ g,ev.ownBlock=some g→Own C ⟨old,gb,n0,ws⟩ Γ keep g∧g≠tb∧g≠rb
  hpv:w.ownsRow 0 boolT 1 pv j (pansV C Γ j)∧∀ g,pv.ownBlock=some g→Own C ⟨old,gb,n0,ws⟩ Γ keep g∧g≠tb∧g≠rb
  apart:∀ g,ev.ownBlock=some g→pv.ownBlock≠some g
  kept:∀ x,keep x→w.heap[x]?=w0.heap[x]?
  size:w0.heap.size≤w.heap.size
structure CloseT (C:Cli) (Post:Value→World→Prop) (Γ:C.G) (keep:Nat→Prop) (w0:World) (old:List Nat) (gb n0 N tb rb:Nat) (V:List Value) (wsv stv:Value) (j:Nat) (ws:List (Wk × St)) (ev pv:Value) (k:Wk) (w:World):Prop where
  hlen:ws.length=N
  hV:wsV ⟨old,gb,n0,ws⟩=V
  gone:∀ i,i < j + 1→∃ k,ws[i]?=some (k,.done)
  hk:∃ st,ws[j]?=some (k,st)
  MW:MainB C Post ⟨old,gb,n0,ws⟩ Γ keep (fun i=>i < j + 1∧endV C Γ i=false) w
  hg:GmG gb wsv stv w
  row:w.ownsRow 0 wkP 1 wsv N V∧∀ g,wsv.ownBlock=some g→keep g
  hrb:w.heap[rb]?=some (.cells #[.slice none 0 0,.slice none 0 0,.slice none 0 0] toldT (0,0))∧Own C ⟨old,gb,n0,ws⟩ Γ keep rb
  htb:w.heap[tb]?=some (.cells #[stv,ev,pv] toldT (0,0))∧Own C ⟨old,gb,n0,ws⟩ Γ keep tb∧tb≠rb
  hev:w.ownsRow 0 boolT 1 ev (j + 1) (endsV C Γ (j + 1))∧∀ g,ev.ownBlock=some g→Own C ⟨old,gb,n0,ws⟩ Γ keep g∧g≠tb∧g≠rb
  hpv:w.ownsRow 0 boolT 1 pv j (pansV C Γ j)∧∀ g,pv.ownBlock=some g→Own C ⟨old,gb,n0,ws⟩ Γ keep g∧g≠tb∧g≠rb
  apart:∀ g,ev.ownBlock=some g→pv.ownBlock≠some g
  kept:∀ x,keep x→w.heap[x]?=w0.heap[x]?
  size:w0.heap.size≤w.heap.size
  hwk:∃ kd b ov,WkAt wkT k kd b ov (panV C Γ j) w
set_option maxRecDepth 100000 in
set_option maxHeartbeats 8000000 in
theorem close_tail {c:Frame} {cs:List Frame} {j:Nat} {ws:List (Wk × St)} {ev pv:Value} {k:Wk} {w:World} (hN:N < 200) (hj:j < N) (X:CloseT C Post Γ keep w0 old gb n0 N tb rb V wsv stv j ws ev pv k w)
    (Hn:∀ pv' w',CloseJ C Post Γ keep w0 old gb n0 N tb rb V wsv stv (j + 1) ws ev pv' w'→∀ y1 y4 y5 y6 y7 y8 y9 y10 y11 y12 y13 y17 y18 y19 y20 y21 y22 y23 y24 y25 y26 y27 y28 y29 y30 y31 y32 y33 y34 y35 y36 y37 y38 y39 y40 y41 y42 y43 y44 y45 y46 y47 y48 y49 y50 y51 y52 y53:Value,LM Try.prog Post (sitG ⟨old,gb,n0,ws⟩) (G ((bk 55 .normal).at ⟨#[.pointer (some (c0 gb 0)),y1,.pointer (some (c0 rb 0)),.pointer (some (c0 tb 0)),y4,y5,y6,y7,y8,y9,y10,y11,y12,y13,wsv,.int .i64 (N:Int),.int .i64 ((j + 1:Nat):Int),y17,y18,y19,y20,y21,y22,y23,y24,y25,y26,y27,y28,y29,y30,y31,y32,y33,y34,y35,y36,y37,y38,y39,y40,y41,y42,y43,y44,y45,y46,y47,y48,y49,y50,y51,y52,y53],[]⟩ [.code closeLoop,.inLoop closeLoop,.inBlock 0,.code closeRest]) (c :: cs)) w') (y1 y4 y6 y7 y8 y9 y10 y11 y12 y13 y17 y18 y19 y20 y21 y22 y23 y24 y25 y26 y27 y28 y29 y30 y31 y32 y33 y34 y35 y36 y37 y38 y39 y40 y41 y42 y43 y44 y45 y46 y47 y48 y49 y50 y51 y52 y53:Value) :
    LM Try.prog Post (sitG ⟨old,gb,n0,ws⟩) (G ((bk 55 .normal).at ⟨#[.pointer (some (c0 gb 0)),y1,.pointer (some (c0 rb 0)),.pointer (some (c0 tb 0)),y4,.pointer (some (c0 k.blk 0)),y6,y7,y8,y9,y10,y11,y12,y13,wsv,.int .i64 (N:Int),.int .i64 (j:Int),y17,y18,y19,y20,y21,y22,y23,y24,y25,y26,y27,y28,y29,y30,y31,y32,y33,y34,y35,y36,y37,y38,y39,y40,y41,y42,y43,y44,y45,y46,y47,y48,y49,y50,y51,y52,y53],[]⟩ [.code closeR9,.inBlock 1,.code (seqR (seqR (seqR closeLoop))),.inLoop closeLoop,.inBlock 0,.code closeRest]) (c :: cs)) w:=by
  have O:=ownM Try.prog Post
  have T:=O.toCtl
  obtain ⟨st,hi⟩:=X.hk
  have hi0:(⟨old,gb,n0,ws⟩:Gm).ws[j]?=some (k,st):=hi
  have hmem:=Gm.at hi0
  have hbg:k.blk≠gb:=(X.MW.wf.blk _ hmem).1
  have hkH:(⟨old,gb,n0,ws⟩:Gm).H k.blk:=.inr (.inr ⟨_,hmem,.inl rfl⟩)
  obtain ⟨kd,b,ov,hwk⟩:=X.hwk
  refine close_r9 (dead:=fun i=>i < j + 1∧endV C Γ i=false) (Z:=fun g=>ev.ownBlock=some g) (gm:=⟨old,gb,n0,ws⟩) (Γ:=Γ) (keep:=keep) (tb:=tb) (kb:=k.blk) (b:=panV C Γ j) (rv:=pv) (xs:=pansV C Γ j) (tc:=#[stv,ev,pv])
    (R:=fun w=>GmG gb wsv stv w∧w.ownsRow 0 wkP 1 wsv N V∧w.heap[rb]?=some (.cells #[.slice none 0 0,.slice none 0 0,.slice none 0 0] toldT (0,0))∧w.ownsRow 0 boolT 1 ev (j + 1) (endsV C Γ (j + 1))∧(∀ x,keep x→w.heap[x]?=w0.heap[x]?)∧w0.heap.size≤w.heap.size∧WkAt wkT k kd b ov (panV C Γ j) w)
    (by rw [pansV_len];omega) hbg (X.MW.wf.noShun hmem 5) (fun w h=>h.2.2.2.2.2.2.cell 5) ?_ (fun w' x6 x7 hd=>?_)
  · refine AppW.start X.MW ⟨X.hg,X.row.1,X.hrb.1,X.hev.1,X.kept,X.size,hwk⟩ ?_ (fun w h g hg=>ownsRow_lt h.2.2.2.1 g hg) X.htb.2.1 (fun g hg=>⟨(X.hpv.2 g hg).1,(X.hpv.2 g hg).2.1⟩) (by decide) X.htb.1 rfl (by rw [pansV_len];exact X.hpv.1)
    rintro w1 w2 ⟨a1,a2,a3,a4,a5,a6,a7⟩ G1
    have low:∀ x,x < w1.heap.size→¬ (⟨old,gb,n0,ws⟩:Gm).H x→x≠tb→pv.ownBlock≠some x→w2.heap[x]?=w1.heap[x]?:=fun x h1 h2 h3 h4=>G1.low x h1 h2 fun h=>h.elim h3 h4
    have kp:∀ x,keep x→w2.heap[x]?=w1.heap[x]?:=fun x hx=>low x (by have h1:=(X.MW.kpfoot x hx).2.2.2;have h2:=a5 x hx;have h3:=X.kept x hx;have h4:w1.heap[x]?=w.heap[x]?:=h2.trans h3.symm;rw [Array.getElem?_eq_getElem h1] at h4;exact (Array.getElem?_eq_some_iff.1 h4).1) (X.MW.kpfoot x hx).2.1 (fun e=>X.htb.2.1.kp (e ▸ hx)) (fun e=>(X.hpv.2 x e).1.kp hx)
    refine ⟨a1.grow G1 (.inl rfl),ownsRow_of (fun g hg=>kp g (X.row.2 g hg)) a2,(low rb (Array.getElem?_eq_some_iff.1 a3).1 X.hrb.2.H (fun e=>X.htb.2.2 e.symm) (fun e=>(X.hpv.2 rb e).2.2 rfl)).trans a3,ownsRow_of (fun g hg=>low g (ownsRow_lt a4 g hg) (X.hev.2 g hg).1.H (X.hev.2 g hg).2.1 (X.apart g hg)) a4,fun x hx=>(kp x hx).trans (a5 x hx),Nat.le_trans a6 G1.size,(G1.own hkH hbg).trans a7⟩
  · intro z0 z1 z2 z3 z4 z5 z6 z7 z8
    obtain ⟨MW',⟨a1,a2,a3,a4,a5,a6,a7⟩,htb',hpv',hO'⟩:=hd
    rw [pansV_len,← pansV_succ] at hpv'
    have X':CloseJ C Post Γ keep w0 old gb n0 N tb rb V wsv stv (j + 1) ws ev x7 w':=by
      refine ⟨X.hlen,X.hV,X.gone,MW',a1,⟨a2,X.row.2⟩,⟨a3,X.hrb.2⟩,⟨htb',X.htb.2.1,X.htb.2.2⟩,⟨a4,X.hev.2⟩,⟨hpv',fun g hg=>⟨(hO' g hg).1,(hO' g hg).2.1,fun e=>?_⟩⟩,fun g hg e=>?_,a5,a6⟩
      · subst e
        rcases hpv'.2 with ⟨_,h0⟩ | ⟨g',cap',cur,rfl,h1,h2,h3⟩
        · omega
        · cases hg
          rw [a3] at h2
          injection h2 with h2
          injection h2 with _ h2
          exact absurd h2 (by decide)
      · rcases (hO' g e).2.2 with h | h
        · exact X.apart g hg h
        · exact h hg
    have key:=Hn x7 w' X'
    simp only [closeLoop,closeRest,seqL,seqR,blkOf,loopOf,Option.getD_some,Try.f55] at key ⊢
    refine l_inBlock T ?_
    refine laW ?_
    have ew:IntKind.i64.wrap ((j:Int) + 1)=((j + 1:Nat):Int):=by rw [IntKind.wrap_i64];omega
    try simp only [ew]
    refine l_inLoop T ?_
    exact key _ _ _ _ _ _ _ _ _ _ _ _ _ _ _ _ _ _ _ _ _ _ _ _ _ _ _ _ _ _ _ _ _ _ _ _ _ _ _ _ _ _ _ _ _ _ _ _
set_option maxRecDepth 100000 in
set_option maxHeartbeats 8000000 in
theorem close_rounds {c:Frame} {cs:List Frame} (hN:N < 200) (Hend:∀ ws ev pv w,CloseJ C Post Γ keep w0 old gb n0 N tb rb V wsv stv N ws ev pv w→∀ (j:Nat) (y1 y4 y5 y6 y7 y8 y9 y10 y11 y12 y13 y17 y18 y19 y20 y21 y22 y23 y24 y25 y26 y27 y28 y29 y30 y31 y32 y33 y34 y35 y36 y37 y38 y39 y40 y41 y42 y43 y44 y45 y46 y47 y48 y49 y50 y51 y52 y53:Value),LM Try.prog Post (sitG ⟨old,gb,n0,ws⟩) (G ((bk 55 .normal).at ⟨#[.pointer (some (c0 gb 0)),y1,.pointer (some (c0 rb 0)),.pointer (some (c0 tb 0)),y4,y5,y6,y7,y8,y9,y10,y11,y12,y13,wsv,.int .i64 (N:Int),.int .i64 (j:Int),y17,y18,y19,y20,y21,y22,y23,y24,y25,y26,y27,y28,y29,y30,y31,y32,y33,y34,y35,y36,y37,y38,y39,y40,y41,y42,y43,y44,y45,y46,y47,y48,y49,y50,y51,y52,y53],[]⟩ [.code closeRest]) (c :: cs)) w) :
    ∀ d j ws ev pv w,j + d=N→CloseJ C Post Γ keep w0 old gb n0 N tb rb V wsv stv j ws ev pv w→∀ y1 y4 y5 y6 y7 y8 y9 y10 y11 y12 y13 y17 y18 y19 y20 y21 y22 y23 y24 y25 y26 y27 y28 y29 y30 y31 y32 y33 y34 y35 y36 y37 y38 y39 y40 y41 y42 y43 y44 y45 y46 y47 y48 y49 y50 y51 y52 y53:Value,LM Try.prog Post (sitG ⟨old,gb,n0,ws⟩) (G ((bk 55 .normal).at ⟨#[.pointer (some (c0 gb 0)),y1,.pointer (some (c0 rb 0)),.pointer (some (c0 tb 0)),y4,y5,y6,y7,y8,y9,y10,y11,y12,y13,wsv,.int .i64 (N:Int),.int .i64 (j:Int),y17,y18,y19,y20,y21,y22,y23,y24,y25,y26,y27,y28,y29,y30,y31,y32,y33,y34,y35,y36,y37,y38,y39,y40,y41,y42,y43,y44,y45,y46,y47,y48,y49,y50,y51,y52,y53],[]⟩ [.code closeLoop,.inLoop closeLoop,.inBlock 0,.code closeRest]) (c :: cs)) w:=by
  intro d
  induction d with
  | zero =>
    intro j ws ev pv w hj X y1 y4 y5 y6 y7 y8 y9 y10 y11 y12 y13 y17 y18 y19 y20 y21 y22 y23 y24 y25 y26 y27 y28 y29 y30 y31 y32 y33 y34 y35 y36 y37 y38 y39 y40 y41 y42 y43 y44 y45 y46 y47 y48 y49 y50 y51 y52 y53
    have O:=ownM Try.prog Post
    have T:=O.toCtl
    have hj:j=N:=by omega
    subst hj
    have key:=Hend ws ev pv w X j
    simp only [closeLoop,seqL,seqR,blkOf,loopOf,Option.getD_some,Try.f55]
    refine laW ?_
    (refine l_cond T false (by simp [Act.eval] <;> omega) ?_;simp only [if_true,if_false,Bool.false_eq_true,↓reduceIte])
    refine l_exit T rfl ?_
    exact key _ _ _ _ _ _ _ _ _ _ _ _ _ _ _ _ _ _ _ _ _ _ _ _ _ _ _ _ _ _ _ _ _ _ _ _ _ _ _ _ _ _ _ _ _ _ _ _
  | succ d ih =>
    intro j ws ev pv w hj X y1 y4 y5 y6 y7 y8 y9 y10 y11 y12 y13 y17 y18 y19 y20 y21 y22 y23 y24 y25 y26 y27 y28 y29 y30 y31 y32 y33 y34 y35 y36 y37 y38 y39 y40 y41 y42 y43 y44 y45 y46 y47 y48 y49 y50 y51 y52 y53
    have O:=ownM Try.prog Post
    have T:=O.toCtl
    have hq:(Try.prog.funcs[55]?).any (·.norace)=false:=by rw [Try.func55];rfl
    have hjN:j < N:=by omega
    simp only [closeLoop,seqL,seqR,blkOf,loopOf,Option.getD_some,Try.f55]
    refine laW ?_
    (refine l_cond T true (by simp [Act.eval] <;> omega) ?_;simp only [if_true,if_false,Bool.false_eq_true,↓reduceIte])
    refine laW ?_
    refine l_block T ?_
    refine laW ?_
    have hlen:=X.hlen
    obtain ⟨⟨k,st⟩,hi⟩:∃ q,ws[j]?=some q:=⟨_,List.getElem?_eq_getElem (by omega)⟩
    have hi0:(⟨old,gb,n0,ws⟩:Gm).ws[j]?=some (k,st):=hi
    have hVj:V[j]?=some (.pointer (some (c0 k.blk 0))):=by rw [← X.hV];exact ws_at hi0
    obtain ⟨g,cap,eg,_,_,hcg⟩:=ownsRow_at X.row.1 hVj
    have hgk:=X.row.2 g (by rw [eg];rfl)
    have hgH:=(X.MW.kpfoot g hgk).2.1
    subst eg
    (refine l_val T (v:=.pointer (some ⟨g,j,none⟩)) (by simp) rfl (by rfl) (fun w=>?_) (fun w=>?_) ?_;(focus go_simp);(focus (simp [go_sem,hjN]));walk_nrm)
    have hneg:(⟨g,j,none⟩:Addr).block≠gb:=fun e=>hgH (.inl e)
    have hnsg:¬ ShunOf (gb :: old) (.cell ⟨g,j,none⟩):=fun h=>hgH (shun_H (g:=⟨old,gb,n0,ws⟩) h)
    (refine l_load O (by simp) rfl (by rfl) hcg (.inl hneg) hnsg (fun w₁ hc₁=>⟨by go_simp,by simp [listed,go_sem,hc₁];exact seen_cell hq _ _ _⟩) ?_;walk_nrm)
    refine laW ?_
    have hmem:=Gm.at hi0
    have hbg:k.blk≠gb:=(X.MW.wf.blk _ hmem).1
    have hkH:(⟨old,gb,n0,ws⟩:Gm).H k.blk:=.inr (.inr ⟨_,hmem,.inl rfl⟩)
    have hself:=X.MW.wf.self _ hmem
    obtain ⟨b,kd,ov,pn,hwk,hb,hst⟩:∃ b kd ov pn,WkAt wkT k kd b ov pn w∧endV C Γ j=!b∧((b=true∧∃ home fb,st=.sits home fb)∨(b=false∧st=.done∧pn=panV C Γ j)):=by
      have W:=(X.MW.ws j _ hi0).st
      cases st with
      | sits home fb =>
        obtain ⟨⟨kd,a,b⟩,_⟩:=W
        exact ⟨_,_,_,_,b,by simp [endV,a],.inl ⟨rfl,_,_,rfl⟩⟩
      | done =>
        rcases W with ⟨_,a,kd,ov,b⟩ | ⟨h,_⟩
        · exact ⟨_,_,_,_,b,by simp [endV,a],.inr ⟨rfl,rfl,by simp [panV,a]⟩⟩
        · have:=h.1;omega
      | gone=>exact W.elim
    refine close_r5 (dead:=fun i=>i < j∧endV C Γ i=false) (Z:=fun g=>pv.ownBlock=some g) (gm:=⟨old,gb,n0,ws⟩) (Γ:=Γ) (keep:=keep) (tb:=tb) (kb:=k.blk) (b:=b) (rv:=ev) (xs:=endsV C Γ j) (tc:=#[stv,ev,pv])
      (R:=fun w=>GmG gb (.slice (some ⟨g,0,none⟩) N cap) stv w∧w.ownsRow 0 wkP 1 (.slice (some ⟨g,0,none⟩) N cap) N V∧w.heap[rb]?=some (.cells #[.slice none 0 0,.slice none 0 0,.slice none 0 0] toldT (0,0))∧w.ownsRow 0 boolT 1 pv j (pansV C Γ j)∧(∀ x,keep x→w.heap[x]?=w0.heap[x]?)∧w0.heap.size≤w.heap.size∧WkAt wkT k kd b ov pn w)
      (by rw [endsV_len];omega) hbg (X.MW.wf.noShun hmem 3) (fun w h=>h.2.2.2.2.2.2.cell 3) ?_ (fun w' x6 x7 hd=>?_)
    · refine AppW.start X.MW ⟨X.hg,X.row.1,X.hrb.1,X.hpv.1,X.kept,X.size,hwk⟩ ?_ (fun w h g hg=>ownsRow_lt h.2.2.2.1 g hg) X.htb.2.1 (fun g hg=>⟨(X.hev.2 g hg).1,(X.hev.2 g hg).2.1⟩) (by decide) X.htb.1 rfl (by rw [endsV_len];exact X.hev.1)
      rintro w1 w2 ⟨a1,a2,a3,a4,a5,a6,a7⟩ G1
      have low:∀ x,x < w1.heap.size→¬ (⟨old,gb,n0,ws⟩:Gm).H x→x≠tb→ev.ownBlock≠some x→w2.heap[x]?=w1.heap[x]?:=fun x h1 h2 h3 h4=>G1.low x h1 h2 fun h=>h.elim h3 h4
      have kp:∀ x,keep x→w2.heap[x]?=w1.heap[x]?:=fun x hx=>low x (by have h1:=(X.MW.kpfoot x hx).2.2.2;have h2:=a5 x hx;have h3:=X.kept x hx;have h4:w1.heap[x]?=w.heap[x]?:=h2.trans h3.symm;rw [Array.getElem?_eq_getElem h1] at h4;exact (Array.getElem?_eq_some_iff.1 h4).1) (X.MW.kpfoot x hx).2.1 (fun e=>X.htb.2.1.kp (e ▸ hx)) (fun e=>(X.hev.2 x e).1.kp hx)
      refine ⟨a1.grow G1 (.inl rfl),ownsRow_of (fun g hg=>kp g (X.row.2 g hg)) a2,(low rb (Array.getElem?_eq_some_iff.1 a3).1 X.hrb.2.H (fun e=>X.htb.2.2 e.symm) (fun e=>(X.hev.2 rb e).2.2 rfl)).trans a3,ownsRow_of (fun g hg=>low g (ownsRow_lt a4 g hg) (X.hpv.2 g hg).1.H (X.hpv.2 g hg).2.1 (fun e=>X.apart g e hg)) a4,fun x hx=>(kp x hx).trans (a5 x hx),Nat.le_trans a6 G1.size,(G1.own hkH hbg).trans a7⟩
    · intro z0 z1 z2 z3 z4 z5 z6 z7 z8 z9
      obtain ⟨MW',⟨a1,a2,a3,a4,a5,a6,a7⟩,htb',hev',hO'⟩:=hd
      rw [endsV_len,← hb,← endsV_succ] at hev'
      have hevrb:∀ g,x7.ownBlock=some g→g≠rb:=fun g hg e=>by
        subst e
        rcases hev'.2 with ⟨_,h0⟩ | ⟨g',cap',cur,rfl,h1,h2,h3⟩
        · omega
        · cases hg
          rw [a3] at h2
          injection h2 with h2
          injection h2 with _ h2
          exact absurd h2 (by decide)
      have hapart:∀ g,x7.ownBlock=some g→pv.ownBlock≠some g:=fun g hg e=>by
        rcases (hO' g hg).2.2 with h | h
        · exact X.apart g h e
        · exact h e
      have hc3:w'.cell? ⟨k.blk,3,none⟩=some (.bool b):=a7.cell 3
      have hns3:¬ ShunOf (gb :: old) (.cell ⟨k.blk,3,none⟩):=X.MW.wf.noShun hmem 3
      have htail:=fun ws' w'' (X':CloseT C Post Γ keep w0 old gb n0 N tb rb V (.slice (some ⟨g,0,none⟩) N cap) stv j ws' x7 pv k w'')=>close_tail (c:=c) (cs:=cs) hN hjN X' (fun pv' w3 X3=>ih (j + 1) ws' x7 pv' w3 (by omega) X3)
      simp only [closeR9,closeLoop,closeRest,seqL,seqR,blkOf,loopOf,Option.getD_some,Try.f55] at htail ⊢
      refine laW ?_
      (refine l_load O (by simp) rfl (by rfl) hc3 (.inl hbg) hns3 (fun w₁ hc₁=>⟨by go_simp,by simp [listed,go_sem,hc₁];exact seen_cell hq _ _ _⟩) ?_;walk_nrm)
      refine laW ?_
      rcases hst with ⟨rfl,home,fb,rfl⟩ | ⟨rfl,rfl,hpn⟩
      · (refine l_cond T true rfl ?_;simp only [if_true,if_false,Bool.false_eq_true,↓reduceIte])
        refine laW ?_
        (refine l_enter T (fn:=Try.f95) (c:=.skip) (g:=95) (xs:=#[.pointer (some (c0 k.blk 0))]) (by simp) rfl (by rfl) (fun w=>?_) (fun w=>?_) ?_;(focus go_simp);(focus (simp [go_sem,events_into Try.func95 (by kernel_rfl) (by kernel_rfl)])))
        have MW2:=MW'.less (keep':=fun x=>keep x∨x=rb∨x=tb∨x7.ownBlock=some x∨pv.ownBlock=some x) (fun x hx=>by
          have ow:∀ {x},Own C ⟨old,gb,n0,ws⟩ Γ keep x→x < w'.heap.size→keep x∨(¬ C.foot Γ x∧¬ (⟨old,gb,n0,ws⟩:Gm).H x∧¬ (⟨old,gb,n0,ws⟩:Gm).chan x∧x < w'.heap.size):=fun O h=>.inr ⟨O.foot,O.H,O.chan,h⟩
          rcases hx with hx | rfl | rfl | hx | hx
          · exact .inl hx
          · exact ow X.hrb.2 (Array.getElem?_eq_some_iff.1 a3).1
          · exact ow X.htb.2.1 (Array.getElem?_eq_some_iff.1 htb').1
          · exact ow (hO' x hx).1 (ownsRow_lt hev' x hx)
          · exact ow (X.hpv.2 x hx).1 (ownsRow_lt a4 x hx))
        refine end_calls MW2 hi0 _ _ trivial (by simp [bk,Frame.at]) rfl (fun v s' w3 hP=>?_) (fun ch s' w3 hP=>by cases hP.1)
        obtain ⟨hv,rfl,MW3,hkp3,⟨wr,r3,hgb3⟩,hsz3⟩:=hP
        cases hv
        have hi':=put_at hi0 (.done)
        have hmem':=Gm.at hi'
        have hwf3:=MW3.wf
        obtain ⟨kd3,ov3,pn3,hwk3⟩:∃ kd ov pn,WkAt wkT k kd true ov pn w3:=by
          rcases (MW3.ws j _ hi').st with ⟨h,_⟩ | ⟨_,h⟩
          · exact absurd (.inr rfl) h
          · exact h
        have MW4:=Main.panicOff MW3 hi' (.inr rfl) false
        rw [bk_finish rfl]
        walk_nrm
        have hc5:w3.cell? ⟨k.blk,5,none⟩=some (.bool pn3):=hwk3.cell 5
        have hf5:w3.frozen? ⟨k.blk,5,none⟩=false:=hwk3.frozen 5
        have hns5:¬ ShunOf (gb :: old) (.cell ⟨k.blk,5,none⟩):=hwf3.noShun hmem' 5
        have q3:∀ g,g≠0→((sitG ((⟨old,gb,n0,ws⟩:Gm).put j .done)).R0 g).sits→¬ (sitG ((⟨old,gb,n0,ws⟩:Gm).put j .done)).S g (.cell ⟨k.blk,5,none⟩):=fun g _ _ hS=>by
          obtain ⟨_,p,_,h⟩:=hS
          injection h with h;injection h with h1 h2;omega
        have q4:∀ w,(sitG ((⟨old,gb,n0,ws⟩:Gm).put j .done)).K w→(sitG ((⟨old,gb,n0,ws⟩:Gm).put j .done)).K (w.setCell ⟨k.blk,5,none⟩ (.bool false)):=fun w h=>Gm.K_own hwf3 hi' (by omega) h
        have q5:∀ g c,((sitG ((⟨old,gb,n0,ws⟩:Gm).put j .done)).R0 g).has c→c≠(⟨k.blk,5,none⟩:Addr).block:=fun g c h=>by
          obtain ⟨_,p,hp,rfl,_⟩:=Gm.R0_seat h
          exact (hwf3.chanK hp (.inl rfl) hmem').1
        refine laW ?_
        (refine l_store O (by simp) rfl (by rfl) hc5 hf5 (.inl hbg) hns5 q3 q4 q5 (fun w₁ hc₁ hf₁=>⟨by go_simp,by simp [listed,go_sem,hc₁,hf₁];rw [events_store Try.prog w₁ #[] _ (.bool false) .plain rfl];simp only [hc₁,hf₁];exact seen_cell hq _ _ _⟩) ?_;walk_nrm)
        refine laW ?_
        have hne4:∀ x,x≠k.blk→(w3.setCell (c0 k.blk 5) (.bool false)).heap[x]?=w3.heap[x]?:=fun x hx=>setCell_ne w3 (c0 k.blk 5) _ hx
        have hwsV:wsV ⟨old,gb,n0,ws.modify j fun p=>(p.1,.done)⟩=V:=by
          rw [← X.hV]
          simp only [wsV]
          apply List.ext_getElem?
          intro i
          simp only [List.getElem?_map,List.getElem?_modify]
          split
          · cases ws[i]? <;> rfl
          · cases ws[i]? <;> rfl
        have kH:∀ x,keep x∨x=rb∨x=tb∨x7.ownBlock=some x∨pv.ownBlock=some x→x≠k.blk:=fun x hx e=>(MW3.kpfoot x hx).2.1 (by rw [put_H,e];exact hkH)
        have kk:∀ x,keep x∨x=rb∨x=tb∨x7.ownBlock=some x∨pv.ownBlock=some x→(w3.setCell (c0 k.blk 5) (.bool false)).heap[x]?=w'.heap[x]?:=fun x hx=>(hne4 x (kH x hx)).trans (hkp3 x hx)
        have ow3:∀ {x},(x=rb∨x=tb∨x7.ownBlock=some x∨pv.ownBlock=some x)→¬ keep x→Own C ⟨old,gb,n0,ws.modify j fun p=>(p.1,.done)⟩ Γ keep x:=fun hx hk=>⟨hk,(MW3.kpfoot _ (.inr hx)).1,(MW3.kpfoot _ (.inr hx)).2.1,(MW3.kpfoot _ (.inr hx)).2.2.1⟩
        have X':CloseT C Post Γ keep w0 old gb n0 N tb rb V (.slice (some ⟨g,0,none⟩) N cap) stv j (ws.modify j fun p=>(p.1,.done)) x7 pv k (w3.setCell (c0 k.blk 5) (.bool false)):=by
          refine ⟨by simp [X.hlen],hwsV,fun i hi2=>?_,⟨_,hi'⟩,(Main.deadIff (MW4.less (keep':=keep) fun x hx=>.inl (.inl hx)) fun i _=>?_),?_,⟨ownsRow_of (fun x hx=>kk x (.inl (X.row.2 x hx))) a2,X.row.2⟩,⟨(kk rb (.inr (.inl rfl))).trans a3,ow3 (.inl rfl) X.hrb.2.kp⟩,⟨(kk tb (.inr (.inr (.inl rfl)))).trans htb',ow3 (.inr (.inl rfl)) X.htb.2.1.kp,X.htb.2.2⟩,⟨ownsRow_of (fun x hx=>kk x (.inr (.inr (.inr (.inl hx))))) hev',fun g hg=>⟨ow3 (.inr (.inr (.inl hg))) (hO' g hg).1.kp,(hO' g hg).2.1,hevrb g hg⟩⟩,⟨ownsRow_of (fun x hx=>kk x (.inr (.inr (.inr (.inr hx))))) a4,fun g hg=>⟨ow3 (.inr (.inr (.inr hg))) (X.hpv.2 g hg).1.kp,(X.hpv.2 g hg).2⟩⟩,hapart,fun x hx=>(kk x (.inl hx)).trans (a5 x hx),?_,⟨kd3,true,ov3,?_⟩⟩
          · by_cases e:i=j
            · subst e;exact ⟨k,hi'⟩
            · obtain ⟨k',h⟩:=X.gone i (by omega)
              exact ⟨k',by rw [List.getElem?_modify];simp [Ne.symm e,h]⟩
          · by_cases e:i=j
            · subst e
              exact ⟨fun _=>⟨by omega,by rw [hb];rfl⟩,fun _=>.inr rfl⟩
            · exact ⟨fun h=>h.elim (fun h=>⟨by omega,h.2⟩) fun h=>absurd h e,fun h=>.inl ⟨by omega,h.2⟩⟩
          · exact (a1.rw r3 hgb3).rw RW.refl (hne4 gb (fun e=>hbg e.symm))
          · rw [setCell_size]
            exact Nat.le_trans a6 hsz3
          · have:panV C Γ j=false:=by
              have e:endV C Γ j=false:=by rw [hb];rfl
              simp only [endV] at e
              simp [panV,e]
            rw [this]
            exact hwk3.panics
        exact htail (ws.modify j fun p=>(p.1,.done)) _ X' _ _ _ _ _ _ _ _ _ _ _ _ _ _ _ _ _ _ _ _ _ _ _ _ _ _ _ _ _ _ _ _ _ _ _ _ _ _ _ _ _ _ _ _ _ _ _
      · (refine l_cond T false rfl ?_;simp only [if_true,if_false,Bool.false_eq_true,↓reduceIte])
        refine laW ?_
        have X':CloseT C Post Γ keep w0 old gb n0 N tb rb V (.slice (some ⟨g,0,none⟩) N cap) stv j ws x7 pv k w':=by
          refine ⟨X.hlen,X.hV,fun i hi'=>?_,⟨_,hi⟩,Main.deadIff MW' fun i _=>?_,a1,⟨a2,X.row.2⟩,⟨a3,X.hrb.2⟩,⟨htb',X.htb.2.1,X.htb.2.2⟩,⟨hev',fun g hg=>⟨(hO' g hg).1,(hO' g hg).2.1,hevrb g hg⟩⟩,⟨a4,X.hpv.2⟩,hapart,a5,a6,⟨kd,false,ov,by rw [← hpn];exact a7⟩⟩
          · by_cases e:i=j
            · subst e;exact ⟨k,hi⟩
            · exact X.gone i (by omega)
          · by_cases e:i=j
            · subst e
              rw [hb]
              simp
            · exact ⟨fun h=>⟨by omega,h.2⟩,fun h=>⟨by omega,h.2⟩⟩
        exact htail ws w' X' _ _ _ _ _ _ _ _ _ _ _ _ _ _ _ _ _ _ _ _ _ _ _ _ _ _ _ _ _ _ _ _ _ _ _ _ _ _ _ _ _ _ _ _ _ _ _
end
end Go.Proofs.Ytndppafplgilbaa
namespace Go.Proofs.Ytndppafplgilbaa
open Go Go.Conc Go.RowKit
open Go.ConcN (sumTo upd sumTo_upd upd_ne upd_same)
def sitI (l:List Nat) (st:Addr) (n:Nat):Sit:=⟨fun _=>True,fun _ _=>False,ShunOf l,st,fun _=>.leave,fun _=>false,n,0⟩
theorem sitI_ok (l:List Nat) (st:Addr) (n:Nat):(sitI l st n).Ok:=⟨fun _ _ h=>h,fun _ _ h=>h,fun _ _ _ _ _ _ _ _ hx _=>trivial,fun x c hx=>hx.elim⟩
theorem hidesI {l:List Nat} {st:Addr} {n:Nat} (h:st.spot=none→st.block∈l):Hides (sitI l st n) 0 (fun k=>k∈l) :=
  ⟨h,fun _ _ _ h=>h,fun _ _ _ hs _=>hs.elim,fun _ _ _ hs _=>hs.elim,fun a ⟨k,hk,h⟩=>by
    rcases h with h | h <;> (cases h;exact hk),fun r ⟨k,_,h⟩=>by rcases h with h | h <;> cases h⟩
section
variable {P:Program} {Post:Value→World→Prop} {g:Goroutine} {w:World}
theorem LM.fresh {K:World→Prop} {S:Nat→Loc→Prop} {Shun:Loc→Prop} {st:Addr} {A0:Nat→Bool} {n d:Nat} (H:LM P Post ⟨fun _=>True,fun _ _=>False,Shun,st,fun _=>.leave,A0,n,d⟩ g w):LM P Post ⟨K,S,Shun,st,fun _=>.leave,A0,n,d⟩ g w:=fun ok =>
  Lh.fresh (fun _ _=>rfl) (fun _ _=>trivial) (H ⟨fun _ _ h=>h,fun _ _ h=>h,fun _ _ _ _ _ _ _ _ _ _=>trivial,fun x c hx=>hx.elim⟩)
end
structure Aft (C:Cli) (Γ:C.G) (keep:Nat→Prop) (l:List Nat) (N:Nat) (steps:List Stp) (w0:World) (tv:Value) (w:World):Prop where
  tv:∃ stv ev pv,tv=.agg #[stv,ev,pv]∧w.ownsRow 0 stepT 3 stv steps.length (stepsV steps)∧w.ownsRow 0 boolT 1 ev N (endsV C Γ N)∧w.ownsRow 0 boolT 1 pv N (pansV C Γ N)∧(∀ g,ev.ownBlock=some g→pv.ownBlock≠some g) ∧
    ∀ g,stv.ownBlock=some g∨ev.ownBlock=some g∨pv.ownBlock=some g→¬ keep g∧¬ C.foot Γ g∧g ∉ l
  M:C.M Γ w
  hid:HidOk (fun k=>k∈l) w
  kept:∀ x,keep x→w.heap[x]?=w0.heap[x]?
  size:w0.heap.size≤w.heap.size
  lfoot:∀ x,x∈l→¬ C.foot Γ x
  kpfoot:∀ x,keep x→¬ C.foot Γ x
section
variable {C:Cli} {Post:Value→World→Prop} {Γ:C.G} {keep:Nat→Prop} {w:World} {gm:Gm} {steps:List Stp}
theorem heap_setOk {l:List Nat} {w:World} (h:HidOk (fun k=>k∈l) w) (a:Addr) (x:Value) (hs:a.spot=none):HidOk (fun k=>k∈l) (w.setCell a x):=fun k hk=>by
  obtain ⟨c,e,h1,h2⟩:=h k hk
  by_cases ek:k=a.block
  · subst ek
    exact ⟨_,e,setCell_self x h1 hs,by simpa using h2⟩
  · exact ⟨c,e,(setCell_ne w a x ek).trans h1,h2⟩
set_option maxRecDepth 100000 in
set_option maxHeartbeats 8000000 in
theorem close_calls (MW:MainB C Post gm Γ keep (fun _=>False) w) (GS:GSt C gm Γ keep steps w) :
    CallsL Try.prog (LM Try.prog Post) (fun _=>True) 55 #[.pointer (some (c0 gm.gb 0))] (sitG gm) w (fun r s' w'=>∃ tv,r=.inl tv∧s'=sitI (gm.gb :: gm.old) (c0 gm.gb 1) (gm.n0 + gm.ws.length)∧w'.cell? (c0 gm.gb 1)=some (.int .u64 0)∧Aft C Γ keep (gm.gb :: gm.old) gm.ws.length steps w tv w'):=by
  intro c cs _ hkd hcm h1 _
  obtain ⟨old,gb,n0,ws0⟩:=gm
  have hN:ws0.length < 200:=MW.wf.few
  obtain ⟨wsv,stv,hG,hws,hwk,hst,hsk⟩:=GS.at_
  have hstlt:=ownsRow_lt hst
  have MW1:=MW.less (keep':=fun x=>keep x∨stv.ownBlock=some x) fun x hx=>hx.imp id fun h=>⟨(hsk x h).2.1,(hsk x h).2.2.1,(hsk x h).2.2.2,hstlt x h⟩
  have hq:(Try.prog.funcs[55]?).any (·.norace)=false:=by rw [Try.func55];rfl
  have Hend:∀ tb rb w1,(∀ x,keep x∨stv.ownBlock=some x→w1.heap[x]?=w.heap[x]?)→w.heap.size≤w1.heap.size→w.heap.size≤tb→w.heap.size≤rb→∀ ws ev pv w',CloseJ C Post Γ (fun x=>keep x∨stv.ownBlock=some x) w1 old gb n0 ws0.length tb rb (wsV ⟨old,gb,n0,ws0⟩) wsv stv ws0.length ws ev pv w'→∀ (j:Nat) (y1 y4 y5 y6 y7 y8 y9 y10 y11 y12 y13 y17 y18 y19 y20 y21 y22 y23 y24 y25 y26 y27 y28 y29 y30 y31 y32 y33 y34 y35 y36 y37 y38 y39 y40 y41 y42 y43 y44 y45 y46 y47 y48 y49 y50 y51 y52 y53:Value),LM Try.prog Post (sitG ⟨old,gb,n0,ws⟩) (G ((bk 55 .normal).at ⟨#[.pointer (some (c0 gb 0)),y1,.pointer (some (c0 rb 0)),.pointer (some (c0 tb 0)),y4,y5,y6,y7,y8,y9,y10,y11,y12,y13,wsv,.int .i64 (ws0.length:Int),.int .i64 (j:Int),y17,y18,y19,y20,y21,y22,y23,y24,y25,y26,y27,y28,y29,y30,y31,y32,y33,y34,y35,y36,y37,y38,y39,y40,y41,y42,y43,y44,y45,y46,y47,y48,y49,y50,y51,y52,y53],[]⟩ [.code closeRest]) (c :: cs)) w':=by
    intro tb rb w1 hk1 hs1 htbl hrbl ws ev pv w' X j y1 y4 y5 y6 y7 y8 y9 y10 y11 y12 y13 y17 y18 y19 y20 y21 y22 y23 y24 y25 y26 y27 y28 y29 y30 y31 y32 y33 y34 y35 y36 y37 y38 y39 y40 y41 y42 y43 y44 y45 y46 y47 y48 y49 y50 y51 y52 y53
    have O:=ownM Try.prog Post
    have T:=O.toCtl
    simp only [closeRest,seqR,Option.getD_some,Try.f55]
    refine laW ?_
    (refine l_enter T (fn:=Try.f96) (c:=.skip) (g:=96) (xs:=#[.pointer (some (c0 gb 1))]) (by simp) rfl (by rfl) (fun w=>?_) (fun w=>?_) ?_;(focus go_simp);(focus (simp [go_sem,events_into Try.func96 (by kernel_rfl) (by kernel_rfl)])))
    have hgH:(⟨old,gb,n0,ws⟩:Gm).H gb:=.inl rfl
    obtain ⟨N',hN',hgh⟩:=X.hg
    have hpos:=X.MW.wf.pos
    have hc1:w'.cell? (c0 gb 1)=some (.int .u64 (N' * 4294967296:Nat)):=cell_of (a:=c0 gb 1) hgh rfl
    have hc2:w'.cell? ⟨gb,2,none⟩=some (.int .u32 0):=cell_of (a:=⟨gb,2,none⟩) hgh rfl
    have hf2:w'.frozen? ⟨gb,2,none⟩=false:=by unfold World.frozen?;simp only [hgh];simp
    refine wait_calls (K:=(⟨old,gb,n0,ws⟩:Gm).K) (S:=(⟨old,gb,n0,ws⟩:Gm).S) (Shun:=ShunOf (gb :: old)) (R0:=(⟨old,gb,n0,ws⟩:Gm).R0) (A0:=(⟨old,gb,n0,ws⟩:Gm).A0) (sn:=n0 + ws.length) ?_ ?_ ?_ (fun w x h=>Gm.K_set X.MW.wf ⟨gb,2,none⟩ x rfl h) ⟨gb,List.mem_cons_self ..,.inr rfl⟩ w' N' hN' hc1 ⟨hc2,hf2⟩ _ _ trivial (by simp [bk,Frame.at]) rfl (fun v s' w2 hP=>?_) (fun ch s' w2 hP=>by cases hP.1)
    · intro x hx
      by_cases hx2:n0≤x∧x < n0 + ws.length
      · obtain ⟨k,hk⟩:=X.gone (x - n0) (by rw [← X.hlen];omega)
        left
        have:=Gm.R0_at (g:=⟨old,gb,n0,ws⟩) (i:=x - n0) hk
        rwa [show (⟨old,gb,n0,ws⟩:Gm).n0 + (x - n0)=x by show n0 + (x - n0)=x;omega] at this
      · right
        exact Gm.R0_out (g:=⟨old,gb,n0,ws⟩) (by show x < n0∨n0 + ws.length≤x;omega)
    · simp [Gm.A0];intro h;have:0 < n0:=hpos;omega
    · intro i hi
      simp [Gm.A0];omega
    obtain ⟨hv,rfl,rfl⟩:=hP
    cases hv
    refine LM.fresh ?_
    rw [X.hlen]
    show LM Try.prog Post (sitI (gb :: old) (c0 gb 1) (n0 + ws0.length)) _ _
    rw [bk_finish rfl]
    walk_nrm
    have hh:=hidesI (l:=gb :: old) (st:=c0 gb 1) (n:=n0 + ws0.length) (fun _=>List.mem_cons_self ..)
    have hid0:HidOk (fun k=>k∈gb :: old) w':=fun k hk=>X.MW.hid k (by
      rcases List.mem_cons.1 hk with rfl | h
      · exact .inl rfl
      · exact .inr (.inl h))
    have hid2:=heap_setOk hid0 (c0 gb 1) (.int .u64 0) rfl
    have hne:∀ x,x≠gb→(w'.setCell (c0 gb 1) (.int .u64 0)).heap[x]?=w'.heap[x]?:=fun x hx=>setCell_ne w' (c0 gb 1) _ hx
    have hin:∀ {x},x∈gb :: old→(⟨old,gb,n0,ws⟩:Gm).H x:=fun hk=>by
      rcases List.mem_cons.1 hk with rfl | h
      · exact .inl rfl
      · exact .inr (.inl h)
    have hOl:∀ {x},Own C ⟨old,gb,n0,ws⟩ Γ (fun x=>keep x∨stv.ownBlock=some x) x→x ∉ gb :: old:=fun O h=>O.H (hin h)
    have hOg:∀ {x},Own C ⟨old,gb,n0,ws⟩ Γ (fun x=>keep x∨stv.ownBlock=some x) x→x≠gb:=fun O h=>O.H (.inl h)
    have hkH:∀ x,keep x∨stv.ownBlock=some x→x ∉ gb :: old:=fun x hx h=>(X.MW.kpfoot x hx).2.1 (hin h)
    have hkg:∀ x,keep x∨stv.ownBlock=some x→x≠gb:=fun x hx h=>hkH x hx (h ▸ List.mem_cons_self ..)
    have htb2:=(hne tb (hOg X.htb.2.1)).trans X.htb.1
    have hrb2:=(hne rb (hOg X.hrb.2)).trans X.hrb.1
    refine laW ?_
    refine l_loadRow O hh (by simp) hid2 rfl (by rfl) rfl (by simp [Act.eval]) htb2 (hOl X.htb.2.1) (d:=_) Try.underlying36 (by rfl) (by kernel_rfl) (fun w3 G3 hs3=>?_)
    walk_nrm
    have hrb3:=(G3.low rb (Array.getElem?_eq_some_iff.1 hrb2).1 (hOl X.hrb.2) id).trans hrb2
    have hstv1:stv.oneCell'=true:=by
      rcases hst.2 with ⟨rfl,_⟩ | ⟨_,_,_,rfl,_⟩ <;> rfl
    have hev1:ev.oneCell'=true:=by
      rcases X.hev.1.2 with ⟨rfl,_⟩ | ⟨_,_,_,rfl,_⟩ <;> rfl
    have hpv1:pv.oneCell'=true:=by
      rcases X.hpv.1.2 with ⟨rfl,_⟩ | ⟨_,_,_,rfl,_⟩ <;> rfl
    refine l_storeRow O hh (cells:=#[stv,ev,pv]) (by simp) G3.ok rfl (by rfl) rfl (by simp [Act.eval]) (by simp [Act.eval]) hrb3 (hOl X.hrb.2) (by kernel_rfl) rfl (by simp [hstv1,hev1,hpv1]) (fun w4 hrb4 G4 hs4=>?_)
    walk_nrm
    refine laW ?_
    refine l_ret T ?_
    refine l_leaveM O hh G4.ok (val:=.agg #[stv,ev,pv]) Try.func55 (fun v M=>?_) (fun w5 G5 hs5=>?_)
    · exact results_cell_row rfl _ v rb toldT #[stv,ev,pv] (0,0) _ (by simp) (M.seen (hOl X.hrb.2) hrb4) Try.underlying36 (by rfl) (by kernel_rfl)
    · have hGA:Grow (c0 gb 1) (fun k=>k∈gb :: old) (fun k=>k=rb) (w'.setCell (c0 gb 1) (.int .u64 0)) w5:=(G3.trans (row'':=fun k=>k=rb) (List.mem_cons_self ..) G4 (fun _ h=>h.elim) (fun _ _ h=>h)).trans (row'':=fun k=>k=rb) (List.mem_cons_self ..) G5 (fun _ h=>h) (fun _ _ h=>h.elim)
      have hlow:∀ x,x < w'.heap.size→x ∉ gb :: old→x≠rb→w5.heap[x]?=w'.heap[x]?:=fun x h1 h2 h3=>(hGA.low x (by rw [setCell_size];exact h1) h2 h3).trans (hne x fun e=>h2 (e ▸ List.mem_cons_self ..))
      have hstk:w'.ownsRow 0 stepT 3 stv steps.length (stepsV steps):=ownsRow_of (fun x hx=>(X.kept x (.inr hx)).trans (hk1 x (.inr hx))) hst
      have hrbst:∀ x,keep x∨stv.ownBlock=some x→x≠rb:=fun x hx e=>X.hrb.2.kp (e ▸ hx)
      have hc5:w5.cell? (c0 gb 1)=some (.int .u64 0):=by
        obtain ⟨wr,r,hwr⟩:=hGA.hid
        have h0:(w'.setCell (c0 gb 1) (.int .u64 0)).cell? (c0 gb 1)=some (.int .u64 (0 * 4294967296:Nat)):=cell_set hc1
        have h5:wr.cell? (c0 gb 1)=some (.int .u64 0):=by
          rcases r with ⟨d,rfl⟩ | ⟨n',n₁,d,e1,e2,rfl⟩
          · exact h0
          · rw [h0] at e1
            injection e1 with e1
            injection e1 with _ e1
            have e3:n₁=0:=by omega
            subst e3
            exact cell_set h0
        unfold World.cell? at h5 ⊢
        rw [show (c0 gb 1).block=gb from rfl,hwr gb (List.mem_cons_self ..)]
        exact h5
      refine h1 _ _ _ ⟨_,rfl,rfl,hc5,⟨⟨stv,ev,pv,rfl,?_,?_,?_,X.apart,fun g hg=>?_⟩,?_,hGA.ok,fun x hx=>?_,?_,fun x hx=>X.MW.Hfoot x (hin hx),fun x hx=>(X.MW.kpfoot x (.inl hx)).1⟩⟩
      · exact ownsRow_of (fun x hx=>hlow x (ownsRow_lt hstk x hx) (hkH x (.inr hx)) (hrbst x (.inr hx))) hstk
      · exact ownsRow_of (fun x hx=>hlow x (ownsRow_lt X.hev.1 x hx) (hOl (X.hev.2 x hx).1) (X.hev.2 x hx).2.2) X.hev.1
      · exact ownsRow_of (fun x hx=>hlow x (ownsRow_lt X.hpv.1 x hx) (hOl (X.hpv.2 x hx).1) (X.hpv.2 x hx).2.2) X.hpv.1
      · rcases hg with hg | hg | hg
        · exact ⟨(hsk g hg).1,(hsk g hg).2.1,fun h=>(hsk g hg).2.2.1 (by
            rcases List.mem_cons.1 h with rfl | h
            · exact .inl rfl
            · exact .inr (.inl h))⟩
        · have O:=(X.hev.2 g hg).1
          exact ⟨fun h=>O.kp (.inl h),O.foot,hOl O⟩
        · have O:=(X.hpv.2 g hg).1
          exact ⟨fun h=>O.kp (.inl h),O.foot,hOl O⟩
      · refine C.stable _ _ _ X.MW.M fun x hx=>hlow x (C.low _ _ X.MW.M x hx) (fun h=>X.MW.Hfoot x (hin h) hx) fun e=>X.hrb.2.foot (e ▸ hx)
      · exact (hlow x (X.MW.kpfoot x (.inl hx)).2.2.2 (hkH x (.inl hx)) (hrbst x (.inl hx))).trans ((X.kept x (.inl hx)).trans (hk1 x (.inl hx)))
      · have:=hGA.size
        rw [setCell_size] at this
        exact Nat.le_trans hs1 (Nat.le_trans X.size this)
  obtain ⟨ao,wcap,rfl⟩:∃ ao cap,wsv=.slice ao ws0.length cap:=by
    rcases hws.2 with ⟨rfl,h0⟩ | ⟨g,cap,cur,rfl,_⟩
    · have h0:ws0.length=0:=h0
      exact ⟨none,0,by rw [h0]⟩
    · exact ⟨_,_,rfl⟩
  obtain ⟨so,sn,scap,rfl⟩:∃ so n c,stv=.slice so n c:=by
    rcases hst.2 with ⟨rfl,_⟩ | ⟨_,_,_,rfl,_⟩ <;> exact ⟨_,_,_,rfl⟩
  have O:=ownM Try.prog Post
  have T:=O.toCtl
  rw [enter_bk Try.func55 rfl]
  walk_nrmf Try.f55
  refine laW ?_
  refine l_new O hidesG (by simp) MW1.hid rfl (by rfl) (by kernel_rfl) (fun n=>.pointer (some (c0 n 0))) (c:=#[.slice none 0 0,.slice none 0 0,.slice none 0 0]) (t:=toldT) (fun v=>by go_simp) (fun w1 hrb1 G1 hlt1=>?_)
  walk_nrm
  refine laW ?_
  have MWa:=MW1.grow G1 fun x h=>h.elim
  have F0:=MW1.fresh (x:=w.heap.size) (Nat.le_refl _)
  have hG1:=hG.grow G1 (.inl rfl)
  have hc3:=hG1.at3
  have hns3:¬ ShunOf (gb :: old) (.cell ⟨gb,3,none⟩):=noShun3 MW.wf
  have hne3:(⟨gb,3,none⟩:Addr).off≠(c0 gb 1).off:=by simp
  have hns0:¬ ShunOf (gb :: old) (.cell ⟨gb,0,none⟩):=by
    rintro ⟨k,hk,h⟩
    rcases h with h | h <;> (injection h with h;injection h with h1 h2;omega)
  have hne0:(⟨gb,0,none⟩:Addr).off≠(c0 gb 1).off:=by simp
  (refine l_load O (by simp) rfl (by rfl) hc3 (.inr hne3) hns3 (fun w₁ hc₁=>⟨by go_simp,by simp [listed,go_sem,hc₁];exact seen_cell hq _ _ _⟩) ?_;walk_nrm)
  refine laW ?_
  refine l_new O hidesG (by simp) MWa.hid rfl (by rfl) (by kernel_rfl) (fun n=>.pointer (some (c0 n 0))) (c:=#[.slice none 0 0,.slice none 0 0,.slice none 0 0]) (t:=toldT) (fun v=>by go_simp) (fun w2 htb2 G2 hlt2=>?_)
  walk_nrm
  have MWb:=MWa.grow G2 fun x h=>h.elim
  have F1:=MWa.fresh (x:=w1.heap.size) (Nat.le_refl _)
  refine l_storeRow O hidesG (cells:=#[.slice so sn scap,.slice none 0 0,.slice none 0 0]) (by simp) MWb.hid rfl (by rfl) rfl (by simp [Act.eval]) (by simp [Act.eval]) htb2 F1.H (by kernel_rfl) rfl (by simp [Value.oneCell']) (fun w3 htb3 G3 hs3=>?_)
  walk_nrm
  have MWc:=MWb.grow G3 fun x h _=>by
    have h:x=w1.heap.size:=h
    subst h
    exact ⟨F1.foot,F1.H,F1.chan,MWb.notBox' htb2 (by decide)⟩
  have hG3:=(hG1.grow G2 (.inl rfl)).grow G3 (.inl rfl)
  have hc0:=hG3.at0
  refine laW ?_
  (refine l_load O (by simp) rfl (by rfl) hc0 (.inr hne0) hns0 (fun w₁ hc₁=>⟨by go_simp,by simp [listed,go_sem,hc₁];exact seen_cell hq _ _ _⟩) ?_;walk_nrm)
  refine laW ?_
  refine l_block T ?_
  refine l_loop T ?_
  have hlow:∀ x,x < w.heap.size→¬ (⟨old,gb,n0,ws0⟩:Gm).H x→w3.heap[x]?=w.heap[x]?:=fun x h1 h2=>by
    have e3:=G3.low x (by omega) h2 (show ¬ x=w1.heap.size by omega)
    have e2:=G2.low x (by omega) h2 id
    exact e3.trans (e2.trans (G1.low x h1 h2 id))
  have hkpk:∀ x,keep x∨Value.ownBlock (.slice so sn scap)=some x→w3.heap[x]?=w.heap[x]?:=fun x hx=>hlow x (MW1.kpfoot x hx).2.2.2 (MW1.kpfoot x hx).2.1
  have hrb3:w3.heap[w.heap.size]?=some (.cells #[.slice none 0 0,.slice none 0 0,.slice none 0 0] toldT (0,0)):=by
    have e3:=G3.low w.heap.size (by omega) F0.H (show ¬ w.heap.size=w1.heap.size by omega)
    have e2:=G2.low w.heap.size (by omega) F0.H id
    exact e3.trans (e2.trans hrb1)
  have nilrow:∀ xs,xs=([]:List Value)→w3.ownsRow 0 boolT 1 (.slice none 0 0) 0 xs:=fun xs h=>⟨by rw [h];rfl,.inl ⟨rfl,rfl⟩⟩
  have X0:CloseJ C Post Γ (fun x=>keep x∨Value.ownBlock (.slice so sn scap)=some x) w3 old gb n0 ws0.length w1.heap.size w.heap.size (wsV ⟨old,gb,n0,ws0⟩) (.slice ao ws0.length wcap) (.slice so sn scap) 0 ws0 (.slice none 0 0) (.slice none 0 0) w3 :=
    ⟨rfl,rfl,fun i hi=>by omega,Main.deadIff MWc fun i _=>⟨fun h=>h.elim,fun h=>by omega⟩,hG3,⟨ownsRow_of (fun x hx=>hkpk x (.inl (hwk x hx))) hws,fun g hg=>.inl (hwk g hg)⟩,⟨hrb3,F0⟩,⟨htb3,F1,by omega⟩,⟨nilrow _ rfl,fun g hg=>(by cases hg)⟩,⟨nilrow _ rfl,fun g hg=>(by cases hg)⟩,fun g hg=>(by cases hg),fun _ _=>rfl,Nat.le_refl _⟩
  have key:=close_rounds (c:=c) (cs:=cs) hN (Hend w1.heap.size w.heap.size w3 hkpk (by omega) (by omega) (Nat.le_refl _)) ws0.length 0 ws0 _ _ w3 (by omega) X0
  simp only [closeLoop,closeRest,seqL,seqR,blkOf,loopOf,Option.getD_some,Try.f55] at key
  exact key _ _ _ _ _ _ _ _ _ _ _ _ _ _ _ _ _ _ _ _ _ _ _ _ _ _ _ _ _ _ _ _ _ _ _ _ _ _ _ _ _ _ _ _ _ _ _ _
end
end Go.Proofs.Ytndppafplgilbaa
namespace Go.Proofs.Ytndppafplgilbaa
open Go Go.Conc Go.RowKit
open Go.ConcN (sumTo upd sumTo_upd upd_ne upd_same)
noncomputable def begLoop:Code:=loopOf (blkOf (seqR (seqL (seqR (seqR (Try.f53.body.getD .skip))))))
noncomputable def begRest:Code:=seqR (seqR (seqR (Try.f53.body.getD .skip)))
noncomputable def begBody:Code:=blkOf (seqL (seqR (seqR begLoop)))
noncomputable def begR5:Code:=seqL (seqR begBody)
noncomputable def begR6:Code:=seqL (seqR (seqR begBody))
noncomputable def begR8:Code:=seqL (seqR (seqR (seqR (seqR begBody))))
noncomputable def begR9:Code:=seqR (seqR (seqR (seqR (seqR begBody))))
section
variable {C:Cli} {ty pty:TypeId} {P:Program} {Post:Value→World→Prop} {gm:Gm} {Γ:C.G} {keep dead:Nat→Prop} {w w1:World} {R:World→Prop} {z tn bq bl vr:Nat} {b0 b1 b3 b4 b5:Bool}
structure MkW (C:Cli) (ty pty:TypeId) (P:Program) (Post:Value→World→Prop) (gm:Gm) (Γ:C.G) (keep dead:Nat→Prop) (R:World→Prop) (z:Nat) (b0 b1 b3 b4 b5:Bool) (tn bq bl vr:Nat) (w:World):Prop where
  MW:Main C ty pty P Post gm Γ keep dead w
  r:R w
  rk:∀ w1 w2,R w1→Grow (c0 gm.gb 1) gm.H (fun k=>z≤k) w1 w2→R w2
  zs:z≤w.heap.size
  hTn:b0=true→z≤tn∧Own C gm Γ keep tn∧w.heap[tn]?=some (.chan 0 #[] false 0 0 false)
  hBk:b1=true→z≤bq∧Own C gm Γ keep bq∧w.heap[bq]?=some (.chan 0 #[] false 0 0 false)
  ne:b0=true→b1=true→tn≠bq
  hBl:b3=true→z≤bl∧Own C gm Γ keep bl∧w.heap[bl]?=some (.cells #[.chan (some tn),.chan (some bq),.int .i64 0,.bool false,.bool false,.bool false] ty (0,0))
  hVr:b4=true→z≤vr∧Own C gm Γ keep vr∧w.heap[vr]?=some (.cells #[bif b5 then .pointer (some (c0 bl 0)) else .pointer none] pty (0,0))∧(b3=true→vr≠bl)
variable (W:MkW C ty pty P Post gm Γ keep dead R z b0 b1 b3 b4 b5 tn bq bl vr w)
include W
theorem MkW.step (G1:Grow (c0 gm.gb 1) gm.H (fun _=>False) w w1):MkW C ty pty P Post gm Γ keep dead R z b0 b1 b3 b4 b5 tn bq bl vr w1:=by
  have low:∀ x o,Own C gm Γ keep x→w.heap[x]?=some o→w1.heap[x]?=some o:=fun x o O h=>(G1.low x (Array.getElem?_eq_some_iff.1 h).1 O.H id).trans h
  refine ⟨W.MW.grow G1 fun x h=>h.elim,W.rk _ _ W.r ⟨G1.hid,G1.ok,fun k h1 h2 _=>G1.low k h1 h2 id,G1.size⟩,W.rk,Nat.le_trans W.zs G1.size,fun h=>?_,fun h=>?_,W.ne,fun h=>?_,fun h=>?_⟩
  · obtain ⟨a,b,c⟩:=W.hTn h;exact ⟨a,b,low _ _ b c⟩
  · obtain ⟨a,b,c⟩:=W.hBk h;exact ⟨a,b,low _ _ b c⟩
  · obtain ⟨a,b,c⟩:=W.hBl h;exact ⟨a,b,low _ _ b c⟩
  · obtain ⟨a,b,c,d⟩:=W.hVr h;exact ⟨a,b,low _ _ b c,d⟩
omit W in
theorem MkW.turn (W:MkW C ty pty P Post gm Γ keep dead R z false b1 false b4 false tn bq bl vr w) (hn:w1.heap[w.heap.size]?=some (.chan 0 #[] false 0 0 false)) (G1:Grow (c0 gm.gb 1) gm.H (fun _=>False) w w1):MkW C ty pty P Post gm Γ keep dead R z true b1 false b4 false w.heap.size bq bl vr w1:=by
  have X:=W.step G1
  refine ⟨X.MW,X.r,X.rk,X.zs,fun _=>⟨W.zs,W.MW.fresh (Nat.le_refl _),hn⟩,X.hBk,fun _ h=>?_,fun h=>(by cases h),X.hVr⟩
  have:=(Array.getElem?_eq_some_iff.1 (W.hBk h).2.2).1
  omega
omit W in
theorem MkW.back (W:MkW C ty pty P Post gm Γ keep dead R z b0 false false b4 false tn bq bl vr w) (hn:w1.heap[w.heap.size]?=some (.chan 0 #[] false 0 0 false)) (G1:Grow (c0 gm.gb 1) gm.H (fun _=>False) w w1):MkW C ty pty P Post gm Γ keep dead R z b0 true false b4 false tn w.heap.size bl vr w1:=by
  have X:=W.step G1
  refine ⟨X.MW,X.r,X.rk,X.zs,X.hTn,fun _=>⟨W.zs,W.MW.fresh (Nat.le_refl _),hn⟩,fun h _=>?_,fun h=>(by cases h),X.hVr⟩
  have:=(Array.getElem?_eq_some_iff.1 (W.hTn h).2.2).1
  omega
omit W in
theorem MkW.made (W:MkW C ty pty P Post gm Γ keep dead R z true true false b4 false tn bq bl vr w) (hn:w1.heap[w.heap.size]?=some (.cells #[.chan (some tn),.chan (some bq),.int .i64 0,.bool false,.bool false,.bool false] ty (0,0))) (G1:Grow (c0 gm.gb 1) gm.H (fun _=>False) w w1):MkW C ty pty P Post gm Γ keep dead R z true true true b4 false tn bq w.heap.size vr w1:=by
  have X:=W.step G1
  refine ⟨X.MW,X.r,X.rk,X.zs,X.hTn,X.hBk,X.ne,fun _=>⟨W.zs,W.MW.fresh (Nat.le_refl _),hn⟩,fun h=>?_⟩
  obtain ⟨a,b,c,d⟩:=X.hVr h
  refine ⟨a,b,c,fun _=>?_⟩
  have:=(Array.getElem?_eq_some_iff.1 (W.hVr h).2.2.1).1
  omega
omit W in
theorem MkW.var (W:MkW C ty pty P Post gm Γ keep dead R z b0 b1 b3 false false tn bq bl vr w) (hn:w1.heap[w.heap.size]?=some (.cells #[.pointer none] pty (0,0))) (G1:Grow (c0 gm.gb 1) gm.H (fun _=>False) w w1):MkW C ty pty P Post gm Γ keep dead R z b0 b1 b3 true false tn bq bl w.heap.size w1:=by
  have X:=W.step G1
  refine ⟨X.MW,X.r,X.rk,X.zs,X.hTn,X.hBk,X.ne,X.hBl,fun _=>⟨W.zs,W.MW.fresh (Nat.le_refl _),hn,fun h=>?_⟩⟩
  have:=(Array.getElem?_eq_some_iff.1 (W.hBl h).2.2).1
  omega
omit W in
theorem MkW.store (W:MkW C ty pty P Post gm Γ keep dead R z true true true true false tn bq bl vr w) (hbx:¬ gm.box vr):MkW C ty pty P Post gm Γ keep dead R z true true true true true tn bq bl vr (w.setCell ⟨vr,0,none⟩ (.pointer (some (c0 bl 0)))):=by
  obtain ⟨a,b,c,d⟩:=W.hVr rfl
  have G1:Grow (c0 gm.gb 1) gm.H (fun k=>k=vr) w (w.setCell ⟨vr,0,none⟩ (.pointer (some (c0 bl 0)))):=Grow.set W.MW.hid _ _ b.H rfl
  have hne:∀ x,x≠vr→(w.setCell ⟨vr,0,none⟩ (.pointer (some (c0 bl 0)))).heap[x]?=w.heap[x]?:=fun x hx=>setCell_ne w ⟨vr,0,none⟩ _ hx
  have nv:∀ x o,w.heap[x]?=some o→(∀ y f,o≠.cells #[y] pty f)→x≠vr:=fun x o h ho e=>by
    subst e
    have:w.heap[x]?=some (.cells #[.pointer none] pty (0,0)):=c
    rw [h] at this
    exact ho _ _ (Option.some.inj this)
  refine ⟨W.MW.grow G1 fun x h _=>?_,W.rk _ _ W.r ⟨G1.hid,G1.ok,fun k h1 h2 h3=>hne k (fun e=>h3 (e ▸ a)),G1.size⟩,W.rk,by rw [setCell_size];exact W.zs,fun _=>?_,fun _=>?_,W.ne,fun _=>?_,fun _=>⟨a,b,setCell_self (a:=⟨vr,0,none⟩) _ c rfl,d⟩⟩
  · have h:x=vr:=h
    subst h
    exact ⟨b.foot,b.H,b.chan,hbx⟩
  · obtain ⟨e1,e2,e3⟩:=W.hTn rfl
    exact ⟨e1,e2,(hne _ (nv _ _ e3 fun _ _ h=>by cases h)).trans e3⟩
  · obtain ⟨e1,e2,e3⟩:=W.hBk rfl
    exact ⟨e1,e2,(hne _ (nv _ _ e3 fun _ _ h=>by cases h)).trans e3⟩
  · obtain ⟨e1,e2,e3⟩:=W.hBl rfl
    exact ⟨e1,e2,(hne _ fun e=>d rfl e.symm).trans e3⟩
end
section
variable {C:Cli} {Post:Value→World→Prop} {gm:Gm} {Γ:C.G} {keep dead:Nat→Prop} {w:World} {s:Sit}
set_option maxRecDepth 100000 in
set_option maxHeartbeats 8000000 in
theorem beg_r5 {k:List Item} {cs:List Frame} {R:World→Prop} {z:Nat} {y0 y1 y2 y3 y4 y5 y6 y7 y8 y9 y10 y11 y12 y13 y14 y15 y16 y17 y18 y19 y20 y21 y22 y23 y24 y25 y26 y27 y28 y29 y30 y31 y32 y33 y34 y35 y36 y37 y38 y39 y40 y41 y42 y43 y44 y45 y46:Value} (hbx:∀ x,z≤x→¬ gm.box x) (hA:MkW C wkT wkP Try.prog Post gm Γ keep dead R z false false false false false 0 0 0 0 w)
    (H:∀ (w':World) (tn bq bl vr:Nat),MkW C wkT wkP Try.prog Post gm Γ keep dead R z true true true true true tn bq bl vr w'→∀ (z16 z17:Value),LM Try.prog Post (sitG gm) (G ((bk 53 .normal).at ⟨#[y0,y1,y2,y3,y4,y5,y6,.pointer (some (c0 vr 0)),y8,y9,y10,y11,y12,y13,.chan (some tn),.chan (some bq),z16,z17,y18,y19,y20,y21,y22,y23,y24,y25,y26,y27,y28,y29,y30,y31,y32,y33,y34,y35,y36,y37,y38,y39,y40,y41,y42,y43,y44,y45,y46],[]⟩ k) cs) w') :
    LM Try.prog Post (sitG gm) (G ((bk 53 .normal).at ⟨#[y0,y1,y2,y3,y4,y5,y6,y7,y8,y9,y10,y11,y12,y13,y14,y15,y16,y17,y18,y19,y20,y21,y22,y23,y24,y25,y26,y27,y28,y29,y30,y31,y32,y33,y34,y35,y36,y37,y38,y39,y40,y41,y42,y43,y44,y45,y46],[]⟩ (.code begR5 :: k)) cs) w:=by
  have O:=ownM Try.prog Post
  have T:=O.toCtl
  have hq:(Try.prog.funcs[53]?).any (·.norace)=false:=by rw [Try.func53];rfl
  simp only [begR5,begBody,begLoop,blkOf,loopOf,seqL,seqR,Option.getD_some,Try.f53]
  refine l_draw O rfl [[],[],[0,1],[2],[],[4,3,0,1,2]] (by kernel_rfl) (fun listed s' a w'=>∃ (b0 b1 b2 b3 b4 b5:Bool) (tn:Nat) (bq:Nat) (bl:Nat) (vr:Nat),listed=#[b0,b1,b2,b3,b4,b5]∧s'=sitG gm∧a=⟨#[y0,y1,y2,y3,y4,y5,y6,(bif b4 then .pointer (some (c0 vr 0)) else y7),y8,y9,y10,y11,y12,y13,(bif b0 then .chan (some tn) else y14),(bif b1 then .chan (some bq) else y15),(bif b2 then .agg #[.chan (some tn),.chan (some bq),.int .i64 0,.bool false,.bool false,.bool false] else y16),(bif b3 then .pointer (some (c0 bl 0)) else y17),y18,y19,y20,y21,y22,y23,y24,y25,y26,y27,y28,y29,y30,y31,y32,y33,y34,y35,y36,y37,y38,y39,y40,y41,y42,y43,y44,y45,y46],[]⟩∧((b3=true→b0=true∧b1=true)∧(b5=true→b3=true∧b4=true)∧(b2=true→b0=true∧b1=true))∧MkW C wkT wkP Try.prog Post gm Γ keep dead R z b0 b1 b3 b4 b5 tn bq bl vr w') ?init ?fin ?step
  case init=>exact ⟨false,false,false,false,false,false,0,0,0,0,rfl,rfl,rfl,⟨fun h=>(by cases h),fun h=>(by cases h),fun h=>(by cases h)⟩,hA⟩
  case fin =>
    rintro s' a w' ⟨b0,b1,b2,b3,b4,b5,tn,bq,bl,vr,hl,rfl,rfl,hc,hW⟩
    have hl':(#[true,true,true,true,true,true]:Array Bool)=#[b0,b1,b2,b3,b4,b5]:=hl
    simp only [Array.mk.injEq,List.cons.injEq,and_true] at hl'
    obtain ⟨rfl,rfl,rfl,rfl,rfl,rfl⟩:=hl'
    simp only [cond_true,cond_false]
    exact H _ _ _ _ _ hW _ _
  case step =>
    rintro listed s' a w' i rest ⟨b0,b1,b2,b3,b4,b5,tn,bq,bl,vr,hl,rfl,rfl,hc,hW⟩ hi hf hd hrs hn
    subst hl
    have hi':i < 6:=hi
    have:i=0∨i=1∨i=2∨i=3∨i=4∨i=5:=by omega
    rcases this with rfl | rfl | rfl | rfl | rfl | rfl
    · have hbf:b0=false:=hf
      subst hbf
      simp only [cond_true,cond_false]
      have h2:b2=false:=by
        cases b2 with
        | false=>rfl
        | true=>exact absurd (hc.2.2 rfl).1 (by simp)
      subst h2
      have h3:b3=false:=by
        cases b3 with
        | false=>rfl
        | true=>exact absurd (hc.1 rfl).1 (by simp)
      subst h3
      have h5:b5=false:=by
        cases b5 with
        | false=>rfl
        | true=>exact absurd (hc.2.1 rfl).1 (by simp)
      subst h5
      refine l_chan O hidesG (by simp) hW.MW.hid rfl (by rfl) (fun w=>?_) (fun w=>?_) (fun w1 hn1 G1 hl1=>?_)
      · have h:(Instr.makeChan 172 (.int .i64 0)).run Try.prog w=.ok (.chan (some w.heap.size)) (w.alloc (.chan 0 #[] false 0 0 false)):=run_makeChan (n:=0) Try.underlying172 (by rfl) .i64 (by decide) (by decide)
        go_simp
      · have h:(Instr.makeChan 172 (.int .i64 0)).events Try.prog w #[]=#[]:=events_makeChan (n:=0) Try.underlying172 (by rfl) .i64 (by decide) (by decide) _
        simp [go_sem,h]
      exact hn _ _ _ ⟨true,b1,false,false,b4,false,_,bq,bl,vr,rfl,rfl,rfl,⟨fun h=>(by cases h),fun h=>(by cases h),fun h=>⟨rfl,(hc.2.2 h).2⟩⟩,hW.turn hn1 G1⟩
    · have hbf:b1=false:=hf
      subst hbf
      simp only [cond_true,cond_false]
      have h2:b2=false:=by
        cases b2 with
        | false=>rfl
        | true=>exact absurd (hc.2.2 rfl).2 (by simp)
      subst h2
      have h3:b3=false:=by
        cases b3 with
        | false=>rfl
        | true=>exact absurd (hc.1 rfl).2 (by simp)
      subst h3
      have h5:b5=false:=by
        cases b5 with
        | false=>rfl
        | true=>exact absurd (hc.2.1 rfl).1 (by simp)
      subst h5
      refine l_chan O hidesG (by simp) hW.MW.hid rfl (by rfl) (fun w=>?_) (fun w=>?_) (fun w1 hn1 G1 hl1=>?_)
      · have h:(Instr.makeChan 173 (.int .i64 0)).run Try.prog w=.ok (.chan (some w.heap.size)) (w.alloc (.chan 0 #[] false 0 0 false)):=run_makeChan (n:=0) Try.underlying173 (by rfl) .i64 (by decide) (by decide)
        go_simp
      · have h:(Instr.makeChan 173 (.int .i64 0)).events Try.prog w #[]=#[]:=events_makeChan (n:=0) Try.underlying173 (by rfl) .i64 (by decide) (by decide) _
        simp [go_sem,h]
      exact hn _ _ _ ⟨b0,true,false,false,b4,false,tn,_,bl,vr,rfl,rfl,rfl,⟨fun h=>(by cases h),fun h=>(by cases h),fun h=>⟨(hc.2.2 h).1,rfl⟩⟩,hW.back hn1 G1⟩
    · have hbf:b2=false:=hf
      subst hbf
      have hbt0:b0=true:=hd 0 (by simp)
      subst hbt0
      have hbt1:b1=true:=hd 1 (by simp)
      subst hbt1
      simp only [cond_true,cond_false]
      refine l_val T (v:=.agg #[.chan (some tn),.chan (some bq),.int .i64 0,.bool false,.bool false,.bool false]) (by simp) rfl (by rfl) (fun w=>by go_simp) (fun w=>by simp [go_sem]) ?_
      exact hn _ _ _ ⟨true,true,true,b3,b4,b5,tn,bq,bl,vr,rfl,rfl,rfl,⟨fun h=>⟨rfl,rfl⟩,hc.2.1,fun h=>⟨rfl,rfl⟩⟩,hW⟩
    · have hbf:b3=false:=hf
      subst hbf
      have hbt2:b2=true:=hd 2 (by simp)
      subst hbt2
      simp only [cond_true,cond_false]
      have h5:b5=false:=by
        cases b5 with
        | false=>rfl
        | true=>exact absurd (hc.2.1 rfl).1 (by simp)
      subst h5
      obtain ⟨hb0,hb1⟩:=hc.2.2 rfl
      subst hb0
      subst hb1
      refine l_new O hidesG (by simp) hW.MW.hid rfl (by rfl) (by kernel_rfl) (fun n=>.pointer (some (c0 n 0))) (c:=#[.chan (some tn),.chan (some bq),.int .i64 0,.bool false,.bool false,.bool false]) (t:=wkT) (fun v=>by go_simp) (fun w1 hn1 G1 hl1=>?_)
      exact hn _ _ _ ⟨true,true,true,true,b4,false,tn,bq,_,vr,rfl,rfl,rfl,⟨fun h=>⟨rfl,rfl⟩,fun h=>(by cases h),fun h=>⟨rfl,rfl⟩⟩,hW.made hn1 G1⟩
    · have hbf:b4=false:=hf
      subst hbf
      simp only [cond_true,cond_false]
      have h5:b5=false:=by
        cases b5 with
        | false=>rfl
        | true=>exact absurd (hc.2.1 rfl).2 (by simp)
      subst h5
      refine l_new O hidesG (by simp) hW.MW.hid rfl (by rfl) (by kernel_rfl) (fun n=>.pointer (some (c0 n 0))) (c:=#[.pointer none]) (t:=wkP) (fun v=>by go_simp) (fun w1 hn1 G1 hl1=>?_)
      exact hn _ _ _ ⟨b0,b1,b2,b3,true,false,tn,bq,bl,_,rfl,rfl,rfl,⟨hc.1,fun h=>(by cases h),hc.2.2⟩,hW.var hn1 G1⟩
    · have hbf:b5=false:=hf
      subst hbf
      have hbt4:b4=true:=hd 4 (by simp)
      subst hbt4
      have hbt3:b3=true:=hd 3 (by simp)
      subst hbt3
      have hbt0:b0=true:=hd 0 (by simp)
      subst hbt0
      have hbt1:b1=true:=hd 1 (by simp)
      subst hbt1
      have hbt2:b2=true:=hd 2 (by simp)
      subst hbt2
      simp only [cond_true,cond_false]
      obtain ⟨hv1,hv2,hv3,hv4⟩:=hW.hVr rfl
      obtain ⟨q1,q2,q3,q4,q5⟩:=own_store hW.MW.wf hv2.H hv2.chan 0 (.pointer (some (c0 bl 0)))
      refine l_store O (by simp) rfl (by rfl) (p:=c0 vr 0) (x:=.pointer none) (y:=.pointer (some (c0 bl 0))) (cell_of (a:=c0 vr 0) hv3 rfl) (by unfold World.frozen?;simp only [hv3];simp) q1 q2 q3 q4 q5 (fun w₁ hc₁ hf₁=>⟨?_,?_⟩) ?_
      · go_simp
      · simp [listed,go_sem,hc₁,hf₁]
        rw [events_store Try.prog w₁ #[] _ (.pointer (some (c0 bl 0))) .plain rfl]
        simp only [hc₁,hf₁]
        exact seen_cell hq _ _ _
      exact hn _ _ _ ⟨true,true,true,true,true,true,tn,bq,bl,vr,rfl,rfl,rfl,⟨hc.1,fun h=>⟨rfl,rfl⟩,hc.2.2⟩,hW.store (hbx vr hv1)⟩
end
end Go.Proofs.Ytndppafplgilbaa
namespace Go.Proofs.Ytndppafplgilbaa
open Go Go.Conc
open Go.ConcN (sumTo upd sumTo_upd upd_ne upd_same)
section
variable {P:Program} {Post:Value→World→Prop} {g:Goroutine} {w:World}
theorem lm_start {st:Addr} (hs:st.spot≠none) (hO:OO Post w) (H:LM P Post (sitI [] st 1) g w):Wins P Post (solo g w) #[]:=by
  refine H (sitI_ok _ _ _) _ _ ⟨#[g],none,fun _=>0,fun _=>.leave,fun _=>false,w,rfl,RW.refl,rfl,rfl,?_,Same.refl _,rfl,fun _ _=>rfl,fun _ h=>(by cases h),fun _ _=>rfl⟩
  have hal:∀ n,alive (fun _=>false) n=0:=fun n=>by
    induction n with
    | zero=>rfl
    | succ n ih=>simp [alive,ih]
  refine ⟨fun x y hx hy=>?_,fun _ _ _ h=>h.elim,fun _ _ h=>h.elim,fun _ h=>h.elim,fun _ _ _ h=>h.elim,fun _ _=>rfl,fun _ _ h=>(by cases h),?_,fun h=>absurd h hs,⟨trivial,hO⟩,fun h=>absurd h hs,by rw [hal];omega,?_,fun _ _ h=>h.elim,fun _ _ _ h=>(by cases h)⟩
  · cases x with
    | zero=>exact absurd rfl hx
    | succ x=>simp at hy
  · have e:(fun g:Nat=>¬ g=0∧((fun _=>Role.leave) g:Role).sits)=fun _=>False:=by
      funext x;exact propext ⟨fun h=>h.2.elim,fun h=>h.elim⟩
    show PastW _ _ (fun g=>¬ g=0∧((fun _=>Role.leave) g:Role).sits) (fun g=>¬ g=0∧((fun _=>Role.leave) g:Role).sits) 0 #[]
    rw [e];exact pastR_nil
  · intro i a x ha
    simp [touchAt,Trace.act?] at ha
theorem LM.over {l:List Nat} {st:Addr} {n:Nat} {f:FuncId} {fn:Func} {tmps:Array Value} {todo:List Item} {v:Value} (hi:P.inits.idxOf? f=none) (hf:P.funcs[f]?=some fn) (hr:∀ w,(results fn tmps).run P w=.ok v w) (he:∀ w,(results fn tmps).events P w #[]=#[])
    (hp:∀ w₁,RW st w w₁→OO Post w₁→Post v w₁):LM P Post (sitI l st n) (G { (bk f .normal).at ⟨tmps,[]⟩ todo with mode:=.returning } []) w:=fun ok=>by
  refine Lh.fin ok ⟨rfl,fun w₁ r=>⟨v,#[],?_,fun e h=>by simp at h,hp w₁ r⟩⟩ fun _ _=>rfl
  simp [G,Frame.at,bk,base,Go.stepG,Go.unwind,Go.doReturn,hi,hf,(hr w₁),(he w₁),GStep.after,seen_none]
end
end Go.Proofs.Ytndppafplgilbaa
