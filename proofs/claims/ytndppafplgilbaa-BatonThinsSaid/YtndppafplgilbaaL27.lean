/-
  larchlaw04.BatonThins returns true for every input. No condition. (Part 27 of 49; joined by program.)
-/
import Derived.Test.YtndppafplgilbaaL26
import Derived.Test.YtndppafplgilbaaL18
set_option linter.unusedVariables false
set_option linter.unusedSimpArgs false
set_option linter.unusedSectionVars false
set_option maxRecDepth 100000
namespace Go.Proofs.Ytndppafplgilbaa
open Go Go.Conc Go.RowKit
open Go.ConcN (sumTo upd sumTo_upd upd_ne upd_same)
abbrev gameT:TypeId:=170
abbrev stepT:TypeId:=49
structure Stp where
  p:Int
  kd:Int
  en:Bool
def Stp.cells (s:Stp):List Value:=[.int .i64 s.p,.int .i64 s.kd,.bool s.en]
def stepsV (l:List Stp):List Value:=l.flatMap Stp.cells
theorem stepsV_len (l:List Stp):(stepsV l).length=l.length * 3:=by
  induction l with
  | nil=>rfl
  | cons s l ih=>simp [stepsV,Stp.cells] at ih ⊢;omega
theorem stepsV_app (l:List Stp) (s:Stp):stepsV (l ++ [s])=stepsV l ++ s.cells:=by simp [stepsV]
def Cli.Pick (C:Cli) (n:Nat) (Γ:C.G) (p:Int) (Γ':C.G) (s:Stp):Prop :=
  if 0≤p∧p < n then match C.stand (C.own p.toNat Γ) with
    | some kd=>C.next p.toNat Γ Γ'∧s=⟨p,kd,(C.stand (C.own p.toNat Γ')).isNone⟩
    | none=>Γ'=Γ∧s=⟨p,-1,false⟩
  else Γ'=Γ∧s=⟨p,-1,false⟩
def GmG (gb:Nat) (wsv stv:Value) (w:World):Prop:=∃ N:Nat,N < 1000∧w.heap[gb]?=some (.cells #[wsv,.int .u64 (N * 4294967296:Nat),.int .u32 0,stv] gameT (0,0))
theorem GmG.at0 {gb:Nat} {wsv stv:Value} {w:World} (h:GmG gb wsv stv w):w.cell? ⟨gb,0,none⟩=some wsv:=by obtain ⟨N,_,h⟩:=h;rw [cell_of (a:=⟨gb,0,none⟩) h rfl];rfl
theorem GmG.at3 {gb:Nat} {wsv stv:Value} {w:World} (h:GmG gb wsv stv w):w.cell? ⟨gb,3,none⟩=some stv:=by obtain ⟨N,_,h⟩:=h;rw [cell_of (a:=⟨gb,3,none⟩) h rfl];rfl
theorem GmG.frozen {gb:Nat} {wsv stv:Value} {w:World} (h:GmG gb wsv stv w) (o:Nat):w.frozen? ⟨gb,o,none⟩=false:=by
  obtain ⟨N,_,h⟩:=h
  unfold World.frozen?
  simp only [h];simp
theorem GmG.rw {gb:Nat} {wsv stv:Value} {w wr w':World} (h:GmG gb wsv stv w) (r:RW (c0 gb 1) w wr) (he:w'.heap[gb]?=wr.heap[gb]?):GmG gb wsv stv w':=by
  obtain ⟨N,hN,h⟩:=h
  rcases r with ⟨d,rfl⟩ | ⟨n,n₁,d,h1,h2,rfl⟩
  · exact ⟨N,hN,he.trans h⟩
  · rw [cell_of (a:=c0 gb 1) (show w.heap[(c0 gb 1).block]?=_ from h) rfl] at h1
    have h1:some (Value.int .u64 (N * 4294967296:Nat))=some (Value.int .u64 (n * 4294967296:Nat)):=h1
    injection h1 with h1
    injection h1 with _ h1
    refine ⟨n₁,by omega,he.trans ?_⟩
    exact setCell_self (a:=c0 gb 1) _ (show w.heap[(c0 gb 1).block]?=_ from h) rfl
theorem GmG.steps {gb:Nat} {wsv stv stv':Value} {w:World} (h:GmG gb wsv stv w):GmG gb wsv stv' (w.setCell ⟨gb,3,none⟩ stv'):=by
  obtain ⟨N,hN,h⟩:=h
  exact ⟨N,hN,setCell_self (a:=⟨gb,3,none⟩) stv' h rfl⟩
theorem GmG.ws {gb:Nat} {wsv wsv' stv:Value} {w:World} (h:GmG gb wsv stv w):GmG gb wsv' stv (w.setCell ⟨gb,0,none⟩ wsv'):=by
  obtain ⟨N,hN,h⟩:=h
  exact ⟨N,hN,setCell_self (a:=⟨gb,0,none⟩) wsv' h rfl⟩
theorem GmG.grow {gb:Nat} {wsv stv:Value} {w w':World} {H row:Nat→Prop} (h:GmG gb wsv stv w) (G:Grow (c0 gb 1) H row w w') (hH:H gb):GmG gb wsv stv w':=by
  obtain ⟨wr,r,h2⟩:=G.hid
  exact h.rw r (h2 gb hH)
theorem GmG.lt {gb:Nat} {wsv stv:Value} {w:World} (h:GmG gb wsv stv w):gb < w.heap.size:=by obtain ⟨N,_,h⟩:=h;exact (Array.getElem?_eq_some_iff.1 h).1
def wsV (gm:Gm):List Value:=gm.ws.map fun p=>.pointer (some (c0 p.1.blk 0))
structure GSt (C:Cli) (gm:Gm) (Γ:C.G) (keep:Nat→Prop) (steps:List Stp) (w:World):Prop where
  at_:∃ wsv stv,GmG gm.gb wsv stv w∧w.ownsRow 0 wkP 1 wsv gm.ws.length (wsV gm)∧(∀ g,wsv.ownBlock=some g→keep g) ∧
    w.ownsRow 0 stepT 3 stv steps.length (stepsV steps)∧(∀ g,stv.ownBlock=some g→¬ keep g∧¬ C.foot Γ g∧¬ gm.H g∧¬ gm.chan g)
  few:steps.length < 10000000
section
variable {C:Cli} {Post:Value→World→Prop} {gm:Gm} {Γ:C.G} {keep keep' dead:Nat→Prop} {w w':World}
theorem Main.notBox {ty pty:TypeId} {P:Program} (MW:Main C ty pty P Post gm Γ keep dead w) {x:Nat} {c:Array Value} {e:TypeId} {f:Nat × Nat} (h:w.heap[x]?=some (.cells c e f)) (he:e≠pty):¬ gm.box x:=by
  rintro ⟨p,hp,home,e1⟩
  obtain ⟨j,hj,e'⟩:=List.getElem_of_mem hp
  have W:=(MW.ws j p (by rw [List.getElem?_eq_getElem hj,e'])).st
  rw [e1] at W
  have hb:w.heap[x]?=some (.cells #[.pointer (some (c0 p.1.blk 0))] pty (0,0)):=W.2.2.1
  rw [h] at hb
  injection hb with hb
  injection hb with _ hb
  exact he hb
theorem ws_at {i:Nat} {p:Wk × St} (hi:gm.ws[i]?=some p):(wsV gm)[i]?=some (.pointer (some (c0 p.1.blk 0))):=by simp [wsV,hi]
theorem ownsRow_at {base:Nat} {e:TypeId} {wsv:Value} {n:Nat} {xs:List Value} (h:w.ownsRow base e 1 wsv n xs) {i:Nat} {x:Value} (hi:xs[i]?=some x):∃ g cap,wsv=.slice (some ⟨g,0,none⟩) n cap∧i < n∧n≤cap∧w.cell? ⟨g,i,none⟩=some x:=by
  have hlt:i < xs.length:=(List.getElem?_eq_some_iff.1 hi).1
  have hl:=h.1
  rcases h.2 with ⟨_,h0⟩ | ⟨g,cap,cur,rfl,h1,h2,h3,h4,h5,h6⟩
  · omega
  · refine ⟨g,cap,rfl,by omega,h3,?_⟩
    rw [cell_of (a:=⟨g,i,none⟩) h2 rfl]
    rw [← h6] at hi
    rw [List.getElem?_take] at hi
    split at hi
    · simpa using hi
    · cases hi
end
end Go.Proofs.Ytndppafplgilbaa
namespace Go.Proofs.Ytndppafplgilbaa
open Go Go.Conc Go.RowKit
open Go.ConcN (sumTo upd sumTo_upd upd_ne upd_same)
def dyn0:Dyn:=⟨fun _=>false,fun _=>[],[]⟩
theorem closed0 {P:Program}:Closed P dyn0:=⟨fun f h=>(by cases h),fun f fn c h=>(by cases h),fun e he=>(by cases he)⟩
theorem info_step:(Try.prog.info? stepT).map (fun i=>(i.zero,i.size,i.bytes))=some (some (.agg #[.int .i64 0,.int .i64 0,.bool false]),3,24):=by kernel_rfl
section
variable {C:Cli} {Post:Value→World→Prop} {gm:Gm} {Γ:C.G} {keep dead:Nat→Prop} {w w' w1 v v':World} {steps:List Stp} {stp:Stp} {tb:Nat} {wsv stv x6 x7:Value} {b6 b7 b10:Bool}
theorem noShun3 {gm:Gm} (W:gm.Wf):¬ ShunOf (gm.gb :: gm.old) (.cell ⟨gm.gb,3,none⟩):=by
  rintro ⟨k,hk,h⟩
  rcases h with h | h <;> (injection h with h;injection h with h1 h2;omega)
structure TailW (C:Cli) (Post:Value→World→Prop) (gm:Gm) (Γ:C.G) (keep dead:Nat→Prop) (steps:List Stp) (stp:Stp) (tb:Nat) (wsv stv:Value) (w:World) (b6 b7 b10:Bool) (x6 x7:Value) (w':World):Prop where
  MW:MainB C Post gm Γ keep dead w'
  kept:∀ x,keep x→w'.heap[x]?=w.heap[x]?
  size:w.heap.size≤w'.heap.size
  tb:w'.heap[tb]?=some (.cells #[.int .i64 stp.p,.int .i64 stp.kd,.bool stp.en] stepT (0,0))
  few:steps.length + 1 < 10000000
  ws:w'.ownsRow 0 wkP 1 wsv gm.ws.length (wsV gm)∧∀ g,wsv.ownBlock=some g→keep g
  g:b10=false→GmG gm.gb wsv stv w'
  st:b7=false→w'.ownsRow 0 stepT 3 stv steps.length (stepsV steps)∧∀ g,stv.ownBlock=some g→¬ keep g∧¬ C.foot Γ g∧¬ gm.H g∧¬ gm.chan g
  s1:b7=false→b6=true→∃ nb,x6=.slice (some ⟨nb,0,none⟩) 1 1∧w'.heap[nb]?=some (.cells #[.int .i64 stp.p,.int .i64 stp.kd,.bool stp.en] stepT (0,0))∧¬ gm.H nb
  s2:b7=true→∃ g cap,x7=.slice (some ⟨g,0,none⟩) (steps.length + 1) cap∧w'.ownsRow 0 stepT 3 x7 (steps.length + 1) (stepsV (steps ++ [stp]))∧¬ keep g∧¬ C.foot Γ g∧¬ gm.H g∧¬ gm.chan g
  g':b10=true→b7=true∧GmG gm.gb wsv x7 w'
theorem TailW.c3 (W:TailW C Post gm Γ keep dead steps stp tb wsv stv w b6 b7 b10 x6 x7 w') (h:b10=false):w'.cell? ⟨gm.gb,3,none⟩=some stv:=(W.g h).at3
theorem TailW.start (MW:MainB C Post gm Γ keep dead w) (hG:GmG gm.gb wsv stv w) (hws:w.ownsRow 0 wkP 1 wsv gm.ws.length (wsV gm)) (hwk:∀ g,wsv.ownBlock=some g→keep g) (hst:w.ownsRow 0 stepT 3 stv steps.length (stepsV steps)) (hsk:∀ g,stv.ownBlock=some g→¬ keep g∧¬ C.foot Γ g∧¬ gm.H g∧¬ gm.chan g)
    (htb:w.heap[tb]?=some (.cells #[.int .i64 stp.p,.int .i64 stp.kd,.bool stp.en] stepT (0,0))) (hfew:steps.length + 1 < 10000000):TailW C Post gm Γ keep dead steps stp tb wsv stv w false false false undef undef w :=
  ⟨MW,fun _ _=>rfl,Nat.le_refl _,htb,hfew,⟨hws,hwk⟩,fun _=>hG,fun _=>⟨hst,hsk⟩,fun _ h=>(by cases h),fun h=>(by cases h),fun h=>(by cases h)⟩
theorem TailW.grow (W:TailW C Post gm Γ keep dead steps stp tb wsv stv w b6 b7 b10 x6 x7 w') (htH:¬ gm.H tb) (G1:Grow (c0 gm.gb 1) gm.H (fun _=>False) w' w1):TailW C Post gm Γ keep dead steps stp tb wsv stv w b6 b7 b10 x6 x7 w1:=by
  have low:∀ k,k < w'.heap.size→¬ gm.H k→w1.heap[k]?=w'.heap[k]?:=fun k h1 h2=>G1.low k h1 h2 id
  have kpH:∀ g,keep g→¬ gm.H g:=fun g hg=>(W.MW.kpfoot g hg).2.1
  refine ⟨W.MW.grow G1 fun x h=>h.elim,fun x hx=>(low x (W.MW.kpfoot x hx).2.2.2 (kpH x hx)).trans (W.kept x hx),Nat.le_trans W.size G1.size,(low _ (Array.getElem?_eq_some_iff.1 W.tb).1 htH).trans W.tb,W.few,⟨ownsRow_of (fun g hg=>low g (ownsRow_lt W.ws.1 g hg) (kpH g (W.ws.2 g hg))) W.ws.1,W.ws.2⟩,fun h=>(W.g h).grow G1 (.inl rfl),fun h=>?_,fun h h'=>?_,fun h=>?_,fun h=>⟨(W.g' h).1,(W.g' h).2.grow G1 (.inl rfl)⟩⟩
  · obtain ⟨a,b⟩:=W.st h
    exact ⟨ownsRow_of (fun g hg=>low g (ownsRow_lt a g hg) (b g hg).2.2.1) a,b⟩
  · obtain ⟨nb,a,b,c⟩:=W.s1 h h'
    exact ⟨nb,a,(low nb (Array.getElem?_eq_some_iff.1 b).1 c).trans b,c⟩
  · obtain ⟨g,cap,rfl,a,b,c,d,e⟩:=W.s2 h
    exact ⟨g,cap,rfl,ownsRow_of (fun g' hg=>by cases hg;exact low g (ownsRow_lt a g rfl) d) a,b,c,d,e⟩
theorem TailW.built (W:TailW C Post gm Γ keep dead steps stp tb wsv stv w false false b10 x6 x7 w') (htH:¬ gm.H tb) (M:Masked gm.H 0 v w') (A:Alone (c0 gm.gb 1) gm.H w' (v.alloc (.cells #[.int .i64 stp.p,.int .i64 stp.kd,.bool stp.en] stepT)) w1):TailW C Post gm Γ keep dead steps stp tb wsv stv w true false b10 (.slice (some ⟨v.heap.size,0,none⟩) 1 1) x7 w1:=by
  have G1:Grow (c0 gm.gb 1) gm.H (fun _=>False) w' w1:=A.grow M fun k hk _=>by
    show (v.heap.push _)[k]?=_
    rw [Array.getElem?_push_lt hk,Array.getElem?_eq_getElem hk]
  have X:=W.grow htH G1
  refine { X with s1:=fun _ _=>⟨v.heap.size,rfl,A.masked.cells (show (v.heap.push _)[v.heap.size]?=_ by simp),fun hH=>?_⟩ }
  have:=(W.MW.free (x:=v.heap.size) (by rw [M.size];exact Nat.le_refl _)).H
  exact this hH
theorem TailW.appended (W:TailW C Post gm Γ keep dead steps stp tb wsv stv w true false false x6 x7 w') (htH:¬ gm.H tb) {g cap:Nat} (hown:w1.ownsRow 0 stepT 3 (.slice (some ⟨g,0,none⟩) (steps.length + 1) cap) (steps.length + 1) (stepsV steps ++ stp.cells)) (G1:Grow (c0 gm.gb 1) gm.H (fun k=>stv.ownBlock=some k) w' w1) (hg:stv.ownBlock=some g∨g=w'.heap.size) (hgH:¬ gm.H g) (hgl:g < w1.heap.size) (htb2:stv.ownBlock≠some tb):TailW C Post gm Γ keep dead steps stp tb wsv stv w true true false x6 (.slice (some ⟨g,0,none⟩) (steps.length + 1) cap) w1:=by
  obtain ⟨hst,hsk⟩:=W.st rfl
  have low:∀ k,k < w'.heap.size→¬ gm.H k→stv.ownBlock≠some k→w1.heap[k]?=w'.heap[k]?:=fun k h1 h2 h3=>G1.low k h1 h2 h3
  have kpH:∀ g,keep g→¬ gm.H g:=fun g hg=>(W.MW.kpfoot g hg).2.1
  have kpS:∀ g,keep g→stv.ownBlock≠some g:=fun g hg e=>(hsk g e).1 hg
  have hbox:∀ x,stv.ownBlock=some x→¬ gm.box x:=fun x hx=>by
    rcases hst.2 with ⟨rfl,_⟩ | ⟨g',cap',cur,rfl,h1,h2,h3⟩
    · cases hx
    · cases hx;exact W.MW.notBox h2 (by decide)
  have MW1:=W.MW.grow G1 fun x h hx=>⟨(hsk x h).2.1,(hsk x h).2.2.1,(hsk x h).2.2.2,hbox x h⟩
  refine ⟨MW1,fun x hx=>(low x (W.MW.kpfoot x hx).2.2.2 (kpH x hx) (kpS x hx)).trans (W.kept x hx),Nat.le_trans W.size G1.size,(low _ (Array.getElem?_eq_some_iff.1 W.tb).1 htH htb2).trans W.tb,W.few,⟨ownsRow_of (fun g hg=>low g (ownsRow_lt W.ws.1 g hg) (kpH g (W.ws.2 g hg)) (kpS g (W.ws.2 g hg))) W.ws.1,W.ws.2⟩,fun h=>(W.g h).grow G1 (.inl rfl),fun h=>(by cases h),fun h=>(by cases h),fun _=>⟨g,cap,rfl,by rw [stepsV_app];exact hown,?_⟩,fun h=>(by cases h)⟩
  rcases hg with hg | hg
  · exact hsk g hg
  · have F:=W.MW.free (x:=g) (by omega)
    exact ⟨fun hk=>by have:=(W.MW.kpfoot g hk).2.2.2;omega,F.foot,F.H,F.chan⟩
theorem TailW.stored (W:TailW C Post gm Γ keep dead steps stp tb wsv stv w true true false x6 x7 w'):TailW C Post gm Γ keep dead steps stp tb wsv stv w true true true x6 x7 (w'.setCell ⟨gm.gb,3,none⟩ x7):=by
  have hne:∀ k,k≠gm.gb→(w'.setCell ⟨gm.gb,3,none⟩ x7).heap[k]?=w'.heap[k]?:=fun k hk=>setCell_ne w' ⟨gm.gb,3,none⟩ x7 hk
  have hgH:gm.H gm.gb:=.inl rfl
  have kpg:∀ g,keep g→g≠gm.gb:=fun g hg e=>(W.MW.kpfoot g hg).2.1 (e ▸ hgH)
  have hG:=W.g rfl
  obtain ⟨g,cap,e7,hr,h1,h2,h3,h4⟩:=W.s2 rfl
  have htbg:tb≠gm.gb:=fun e=>by
    obtain ⟨N,_,hN⟩:=hG
    have:=W.tb
    rw [e,hN] at this
    injection this with this
    injection this with _ this
    exact absurd this (by decide)
  have MW1:MainB C Post gm Γ keep dead (w'.setCell ⟨gm.gb,3,none⟩ x7):=by
    refine W.MW.own (fun x hx hxg=>hne x hxg) (fun x hx=>?_) (fun x hx=>hne x fun e=>W.MW.Hfoot _ hgH (e ▸ hx)) (fun x hx=>hne x fun e=>?_) (by rw [setCell_size];exact Nat.le_refl _)
    · obtain ⟨c,e,a,b⟩:=W.MW.hid x hx
      by_cases ex:x=gm.gb
      · subst ex
        exact ⟨_,e,setCell_self (a:=⟨gm.gb,3,none⟩) x7 a rfl,by simpa using b⟩
      · exact ⟨c,e,(hne x ex).trans a,b⟩
    · subst e
      rcases hx with hx | hx
      · exact W.MW.wf.chanH hx hgH
      · exact (W.MW.bxfoot _ hx).2 hgH
  refine ⟨MW1,fun x hx=>(hne x (kpg x hx)).trans (W.kept x hx),by rw [setCell_size];exact W.size,(hne tb htbg).trans W.tb,W.few,⟨ownsRow_of (fun g hg=>hne g (kpg g (W.ws.2 g hg))) W.ws.1,W.ws.2⟩,fun h=>(by cases h),fun h=>(by cases h),fun h=>(by cases h),fun _=>⟨g,cap,e7,ownsRow_of (fun g' hg=>hne g' ?_) hr,h1,h2,h3,h4⟩,fun _=>⟨rfl,hG.steps⟩⟩
  rw [e7] at hg
  cases hg
  exact fun e=>h3 (by have e:g=gm.gb:=e;rw [e];exact hgH)
theorem TailW.done (W:TailW C Post gm Γ keep dead steps stp tb wsv stv w b6 b7 true x6 x7 w'):GSt C gm Γ keep (steps ++ [stp]) w':=by
  obtain ⟨h7,hG⟩:=W.g' rfl
  obtain ⟨g,cap,e7,hr,h1⟩:=W.s2 h7
  refine ⟨⟨wsv,x7,hG,W.ws.1,W.ws.2,by simpa using hr,fun g' hg=>?_⟩,by simpa using W.few⟩
  rw [e7] at hg
  cases hg
  exact h1
set_option maxRecDepth 100000 in
set_option maxHeartbeats 8000000 in
theorem pick_tail {p:Int} {c:Frame} {cs:List Frame} {y5 y6 y7 y8 y9 y10 y11 y12 y13 y14 y15 y16 y17 y18 y19 y20 y21 y22 y23 y24 y25 y26 y27 y28 y29 y30 y31 y32 y33 y34 y35 y36 y37 y38 y39 y40 y41 y42 y43 y44 y45 y46 y47 y48 y49 y50 y51 y52 y53 y54 y55 y56 y57 y58 y59 y60:Value} (MW:MainB C Post gm Γ keep dead w) (GS:GSt C gm Γ keep steps w) (hfew:steps.length + 1 < 10000000) (htb:w.heap[tb]?=some (.cells #[.int .i64 stp.p,.int .i64 stp.kd,.bool stp.en] stepT (0,0))) (htH:¬ gm.H tb) (hst2:∀ wsv stv,GmG gm.gb wsv stv w→stv.ownBlock≠some tb)
    (H:∀ w',MainB C Post gm Γ keep dead w'→GSt C gm Γ keep (steps ++ [stp]) w'→(∀ x,keep x→w'.heap[x]?=w.heap[x]?)→w.heap.size≤w'.heap.size→LM Try.prog Post (sitG gm) (G (c.finish (.tuple #[])) cs) w') :
    LM Try.prog Post (sitG gm) (G ((bk 54 .normal).at ⟨#[.pointer (some (c0 gm.gb 0)),.int .i64 p,undef,undef,.pointer (some (c0 tb 0)),y5,y6,y7,y8,y9,y10,y11,y12,y13,y14,y15,y16,y17,y18,y19,y20,y21,y22,y23,y24,y25,y26,y27,y28,y29,y30,y31,y32,y33,y34,y35,y36,y37,y38,y39,y40,y41,y42,y43,y44,y45,y46,y47,y48,y49,y50,y51,y52,y53,y54,y55,y56,y57,y58,y59,y60,undef,undef,undef,undef,undef,undef,undef,undef,undef,undef],[]⟩ [.code (seqR (seqR (Try.f54.body.getD .skip)))]) (c :: cs)) w:=by
  have O:=ownM Try.prog Post
  have T:=O.toCtl
  have hq:(Try.prog.funcs[54]?).any (·.norace)=false:=by rw [Try.func54];rfl
  obtain ⟨ti,hsi,hsz1,hsz2,hsz3⟩:=info_parts info_step
  obtain ⟨⟨wsv,stv,hG,hws,hwk,hst,hsk⟩,_⟩:=GS
  have htb2:=hst2 wsv stv hG
  simp only [seqR,Option.getD_some,Try.f54]
  refine l_draw O rfl [[],[],[1],[2],[3],[],[5],[4,6],[0,1,2,3,4,5,6,7],[8,0,1,2,3,4,5,6,7],[9,7,0,1,2,3,4,5,6]] (by kernel_rfl) (fun listed s' a w'=>∃ (b0 b1 b2 b3 b4 b5 b6 b7 b8 b9 b10:Bool) (x6:Value) (x7:Value),listed=#[b0,b1,b2,b3,b4,b5,b6,b7,b8,b9,b10]∧s'=sitG gm∧a=⟨#[.pointer (some (c0 gm.gb 0)),.int .i64 p,undef,undef,.pointer (some (c0 tb 0)),y5,y6,y7,y8,y9,y10,y11,y12,y13,y14,y15,y16,y17,y18,y19,y20,y21,y22,y23,y24,y25,y26,y27,y28,y29,y30,y31,y32,y33,y34,y35,y36,y37,y38,y39,y40,y41,y42,y43,y44,y45,y46,y47,y48,y49,y50,y51,y52,y53,y54,y55,y56,y57,y58,y59,y60,(bif b0 then .pointer (some (c0 gm.gb 0)) else undef),(bif b1 then .pointer (some (c0 gm.gb 0)) else undef),(bif b2 then .pointer (some (c0 gm.gb 0)) else undef),(bif b3 then .pointer (some ⟨gm.gb,3,none⟩) else undef),(bif b4 then stv else undef),(bif b5 then .agg #[.int .i64 stp.p,.int .i64 stp.kd,.bool stp.en] else undef),(bif b6 then x6 else undef),(bif b7 then x7 else undef),(bif b8 then .pointer (some (c0 gm.gb 0)) else undef),(bif b9 then .pointer (some ⟨gm.gb,3,none⟩) else undef)],[]⟩∧((b7=true→b4=true)∧(b7=true→b6=true)∧(b10=true→b7=true))∧TailW C Post gm Γ keep dead steps stp tb wsv stv w b6 b7 b10 x6 x7 w') ?init ?fin ?step
  case init=>exact ⟨false,false,false,false,false,false,false,false,false,false,false,undef,undef,rfl,rfl,rfl,⟨fun h=>(by cases h),fun h=>(by cases h),fun h=>(by cases h)⟩,TailW.start MW hG hws hwk hst hsk htb hfew⟩
  case fin =>
    rintro s' a w' ⟨b0,b1,b2,b3,b4,b5,b6,b7,b8,b9,b10,x6,x7,hl,rfl,rfl,hc,hW⟩
    have hl':(#[true,true,true,true,true,true,true,true,true,true,true]:Array Bool)=#[b0,b1,b2,b3,b4,b5,b6,b7,b8,b9,b10]:=hl
    simp only [Array.mk.injEq,List.cons.injEq,and_true] at hl'
    obtain ⟨rfl,rfl,rfl,rfl,rfl,rfl,rfl,rfl,rfl,rfl,rfl⟩:=hl'
    simp only [cond_true,cond_false]
    refine l_fin T ?_
    exact l_leave T Try.func54 rfl (resultsC_none rfl _) (H _ hW.MW (hW.done) hW.kept hW.size)
  case step =>
    rintro listed s' a w' i rest ⟨b0,b1,b2,b3,b4,b5,b6,b7,b8,b9,b10,x6,x7,hl,rfl,rfl,hc,hW⟩ hi hf hd hrs hn
    subst hl
    have hi':i < 11:=hi
    have:i=0∨i=1∨i=2∨i=3∨i=4∨i=5∨i=6∨i=7∨i=8∨i=9∨i=10:=by omega
    rcases this with rfl | rfl | rfl | rfl | rfl | rfl | rfl | rfl | rfl | rfl | rfl
    · have hbf:b0=false:=hf
      subst hbf
      simp only [cond_true,cond_false]
      refine l_val T (v:=.pointer (some (c0 gm.gb 0))) (by simp) rfl (by rfl) (fun w=>by go_simp) (fun w=>by simp [go_sem]) ?_
      exact hn _ _ _ ⟨true,b1,b2,b3,b4,b5,b6,b7,b8,b9,b10,x6,x7,rfl,rfl,rfl,hc,hW⟩
    · have hbf:b1=false:=hf
      subst hbf
      simp only [cond_true,cond_false]
      refine l_val T (v:=.pointer (some (c0 gm.gb 0))) (by simp) rfl (by rfl) (fun w=>by go_simp) (fun w=>by simp [go_sem]) ?_
      exact hn _ _ _ ⟨b0,true,b2,b3,b4,b5,b6,b7,b8,b9,b10,x6,x7,rfl,rfl,rfl,hc,hW⟩
    · have hbf:b2=false:=hf
      subst hbf
      have hbt1:b1=true:=hd 1 (by simp)
      subst hbt1
      simp only [cond_true,cond_false]
      refine l_val T (v:=.pointer (some (c0 gm.gb 0))) (by simp) rfl (by rfl) (fun w=>by go_simp) (fun w=>by simp [go_sem]) ?_
      exact hn _ _ _ ⟨b0,true,true,b3,b4,b5,b6,b7,b8,b9,b10,x6,x7,rfl,rfl,rfl,hc,hW⟩
    · have hbf:b3=false:=hf
      subst hbf
      have hbt2:b2=true:=hd 2 (by simp)
      subst hbt2
      simp only [cond_true,cond_false]
      refine l_val T (v:=.pointer (some ⟨gm.gb,3,none⟩)) (by simp) rfl (by rfl) (fun w=>by go_simp) (fun w=>by simp [go_sem]) ?_
      exact hn _ _ _ ⟨b0,b1,true,true,b4,b5,b6,b7,b8,b9,b10,x6,x7,rfl,rfl,rfl,hc,hW⟩
    · have hbf:b4=false:=hf
      subst hbf
      have hbt3:b3=true:=hd 3 (by simp)
      subst hbt3
      simp only [cond_true,cond_false]
      have h7:b7=false:=by
        cases b7 with
        | false=>rfl
        | true=>exact absurd (hc.1 rfl) (by simp)
      subst h7
      have h10:b10=false:=by
        cases b10 with
        | false=>rfl
        | true=>exact absurd (hc.2.2 rfl) (by simp)
      subst h10
      have h3:=hW.c3 rfl
      refine l_load O (by simp) rfl (by rfl) (p:=⟨gm.gb,3,none⟩) (x:=stv) h3 (.inr (by simp [sitG])) (noShun3 hW.MW.wf) (fun w₁ hc₁=>⟨by go_simp,by simp [listed,go_sem,hc₁];exact seen_cell hq _ _ _⟩) ?_
      exact hn _ _ _ ⟨b0,b1,b2,true,true,b5,b6,false,b8,b9,false,x6,x7,rfl,rfl,rfl,⟨fun h=>(by cases h),fun h=>(by cases h),hc.2.2⟩,hW⟩
    · have hbf:b5=false:=hf
      subst hbf
      simp only [cond_true,cond_false]
      refine l_mask O (F:=fun _=>false) (fun f h=>by cases h) hidesG (by simp) hW.MW.hid rfl (by rfl) (by kernel_rfl) (R:=fun v x v'=>x=.agg #[.int .i64 stp.p,.int .i64 stp.kd,.bool stp.en]∧v'=v) (fun v M=>?_) (fun v x v' w1 M hR A=>?_)
      · have htv:=M.seen htH hW.tb
        have e0:v.cell? ⟨tb,0,none⟩=some (.int .i64 stp.p):=cell_of (a:=⟨tb,0,none⟩) htv rfl
        have e1:v.cell? ⟨tb,1,none⟩=some (.int .i64 stp.kd):=cell_of (a:=⟨tb,1,none⟩) htv rfl
        have e2:v.cell? ⟨tb,2,none⟩=some (.bool stp.en):=cell_of (a:=⟨tb,2,none⟩) htv rfl
        refine ⟨_,_,?_,rfl,rfl⟩
        go_simp
      obtain ⟨rfl,rfl⟩:=hR
      exact hn _ _ _ ⟨b0,b1,b2,b3,b4,true,b6,b7,b8,b9,b10,x6,x7,rfl,rfl,rfl,hc,hW.grow htH (A.grow M fun k hk _=>rfl)⟩
    · have hbf:b6=false:=hf
      subst hbf
      have hbt5:b5=true:=hd 5 (by simp)
      subst hbt5
      simp only [cond_true,cond_false]
      have h7:b7=false:=by
        cases b7 with
        | false=>rfl
        | true=>exact absurd (hc.2.1 rfl) (by simp)
      subst h7
      refine l_mask O (F:=fun _=>false) (fun f h=>by cases h) hidesG (by simp) hW.MW.hid rfl (by rfl) (by kernel_rfl) (R:=fun v x v'=>x=.slice (some ⟨v.heap.size,0,none⟩) 1 1∧v'=v.alloc (.cells #[.int .i64 stp.p,.int .i64 stp.kd,.bool stp.en] stepT)) (fun v M=>?_) (fun v x v' w1 M hR A=>?_)
      · refine ⟨_,_,?_,rfl,rfl⟩
        go_simp
      obtain ⟨rfl,rfl⟩:=hR
      exact hn _ _ _ ⟨b0,b1,b2,b3,b4,true,true,false,b8,b9,b10,_,x7,rfl,rfl,rfl,⟨fun h=>(by cases h),fun _=>rfl,hc.2.2⟩,hW.built htH M A⟩
    · have hbf:b7=false:=hf
      subst hbf
      have hbt4:b4=true:=hd 4 (by simp)
      subst hbt4
      have hbt6:b6=true:=hd 6 (by simp)
      subst hbt6
      simp only [cond_true,cond_false]
      have h10:b10=false:=by
        cases b10 with
        | false=>rfl
        | true=>exact absurd (hc.2.2 rfl) (by simp)
      subst h10
      obtain ⟨nb,rfl,hnb,hnbH⟩:=hW.s1 rfl rfl
      obtain ⟨hst,hsk⟩:=hW.st rfl
      have hl3:(stp.cells).length=1 * 3:=rfl
      refine l_append O (F:=fun _=>false) (fun f h=>by cases h) hidesG (by simp) hW.MW.hid rfl (by rfl) rfl Try.underlying28 hsi hsz1 hsz2 hsz3 (by rfl) (by decide) (v:=stv) (by simp [Act.eval]) hst (fun g hg=>(hsk g hg).2.2.1) (ad:=⟨nb,0,none⟩) (news:=stp.cells) (c:=1) (by simp [Act.eval]) hl3 (fun j u hj=>?_) hnbH (fun u hu=>?_) (by decide) (by simp [maxLen];omega) (by omega) (fun g cap w1 hown G1 hg hgH hgl=>?_)
      · have e:(⟨nb,0,none⟩:Addr).add j=⟨nb,j,none⟩:=by simp [Addr.add];omega
        rw [e,cell_of (a:=⟨nb,j,none⟩) hnb rfl]
        simpa [Stp.cells] using hj
      · simp [Stp.cells] at hu
        rcases hu with rfl | rfl | rfl <;> rfl
      exact hn _ _ _ ⟨b0,b1,b2,b3,true,b5,true,true,b8,b9,false,_,_,rfl,rfl,rfl,⟨fun _=>rfl,fun _=>rfl,fun h=>(by cases h)⟩,hW.appended htH hown G1 hg hgH hgl htb2⟩
    · have hbf:b8=false:=hf
      subst hbf
      have hbt0:b0=true:=hd 0 (by simp)
      subst hbt0
      have hbt1:b1=true:=hd 1 (by simp)
      subst hbt1
      have hbt2:b2=true:=hd 2 (by simp)
      subst hbt2
      have hbt3:b3=true:=hd 3 (by simp)
      subst hbt3
      have hbt4:b4=true:=hd 4 (by simp)
      subst hbt4
      have hbt5:b5=true:=hd 5 (by simp)
      subst hbt5
      have hbt6:b6=true:=hd 6 (by simp)
      subst hbt6
      have hbt7:b7=true:=hd 7 (by simp)
      subst hbt7
      simp only [cond_true,cond_false]
      refine l_val T (v:=.pointer (some (c0 gm.gb 0))) (by simp) rfl (by rfl) (fun w=>by go_simp) (fun w=>by simp [go_sem]) ?_
      exact hn _ _ _ ⟨true,true,true,true,true,true,true,true,true,b9,b10,x6,x7,rfl,rfl,rfl,hc,hW⟩
    · have hbf:b9=false:=hf
      subst hbf
      have hbt8:b8=true:=hd 8 (by simp)
      subst hbt8
      have hbt0:b0=true:=hd 0 (by simp)
      subst hbt0
      have hbt1:b1=true:=hd 1 (by simp)
      subst hbt1
      have hbt2:b2=true:=hd 2 (by simp)
      subst hbt2
      have hbt3:b3=true:=hd 3 (by simp)
      subst hbt3
      have hbt4:b4=true:=hd 4 (by simp)
      subst hbt4
      have hbt5:b5=true:=hd 5 (by simp)
      subst hbt5
      have hbt6:b6=true:=hd 6 (by simp)
      subst hbt6
      have hbt7:b7=true:=hd 7 (by simp)
      subst hbt7
      simp only [cond_true,cond_false]
      refine l_val T (v:=.pointer (some ⟨gm.gb,3,none⟩)) (by simp) rfl (by rfl) (fun w=>by go_simp) (fun w=>by simp [go_sem]) ?_
      exact hn _ _ _ ⟨true,true,true,true,true,true,true,true,true,true,b10,x6,x7,rfl,rfl,rfl,hc,hW⟩
    · have hbf:b10=false:=hf
      subst hbf
      have hbt9:b9=true:=hd 9 (by simp)
      subst hbt9
      have hbt7:b7=true:=hd 7 (by simp)
      subst hbt7
      have hbt0:b0=true:=hd 0 (by simp)
      subst hbt0
      have hbt1:b1=true:=hd 1 (by simp)
      subst hbt1
      have hbt2:b2=true:=hd 2 (by simp)
      subst hbt2
      have hbt3:b3=true:=hd 3 (by simp)
      subst hbt3
      have hbt4:b4=true:=hd 4 (by simp)
      subst hbt4
      have hbt5:b5=true:=hd 5 (by simp)
      subst hbt5
      have hbt6:b6=true:=hd 6 (by simp)
      subst hbt6
      simp only [cond_true,cond_false]
      obtain ⟨g7,cap7,e7,_⟩:=hW.s2 rfl
      subst e7
      have h3:=hW.c3 rfl
      have hG:=hW.g rfl
      refine l_store O (by simp) rfl (by rfl) (p:=⟨gm.gb,3,none⟩) (x:=stv) (y:=.slice (some ⟨g7,0,none⟩) (steps.length + 1) cap7) h3 (hG.frozen 3) (.inr (by simp [sitG])) (noShun3 hW.MW.wf) (fun g _ _ hS=>?_) (fun w h=>Gm.K_set hW.MW.wf _ _ rfl h) (fun g c h=>?_) (fun w₁ hc₁ hf₁=>⟨?_,?_⟩) ?_
      · obtain ⟨_,p,hp,h⟩:=hS
        injection h with h;injection h with h1 h2;omega
      · obtain ⟨_,p,hp,rfl,_⟩:=Gm.R0_seat h
        exact (hW.MW.wf.blk _ (Gm.at hp)).2.1
      · go_simp
      · simp [listed,go_sem,hc₁,hf₁]
        rw [events_store Try.prog w₁ #[] _ (.slice (some ⟨g7,0,none⟩) (steps.length + 1) cap7) .plain rfl]
        simp only [show w₁.cell? ⟨gm.gb,3,none⟩=some stv from hc₁,show w₁.frozen? ⟨gm.gb,3,none⟩=false from hf₁]
        exact seen_cell hq _ _ _
      exact hn _ _ _ ⟨true,true,true,true,true,true,true,true,b8,true,true,_,_,rfl,rfl,rfl,⟨fun _=>rfl,fun _=>rfl,fun _=>rfl⟩,hW.stored⟩
end
end Go.Proofs.Ytndppafplgilbaa
namespace Go.Proofs.Ytndppafplgilbaa
open Go Go.Conc Go.RowKit
open Go.ConcN (sumTo upd sumTo_upd upd_ne upd_same)
section
variable {C:Cli} {Post:Value→World→Prop} {gm:Gm} {Γ:C.G} {keep:Nat→Prop} {w:World} {steps:List Stp}
theorem own_store {gm:Gm} (W:gm.Wf) {b:Nat} (hH:¬ gm.H b) (hch:¬ gm.chan b) (o:Nat) (y:Value):((⟨b,o,none⟩:Addr).block≠(sitG gm).st.block∨(⟨b,o,none⟩:Addr).off≠(sitG gm).st.off)∧¬ (sitG gm).Shun (.cell ⟨b,o,none⟩)∧(∀ g,g≠0→((sitG gm).R0 g).sits→¬ (sitG gm).S g (.cell ⟨b,o,none⟩))∧(∀ w,(sitG gm).K w→(sitG gm).K (w.setCell ⟨b,o,none⟩ y))∧∀ g c,((sitG gm).R0 g).has c→c≠(⟨b,o,none⟩:Addr).block:=by
  refine ⟨.inl fun e=>hH (.inl e),fun h=>hH (shun_H (g:=gm) h),fun g _ _ hS=>?_,fun w hK p hp=>?_,fun g c h e=>?_⟩
  · obtain ⟨_,p,hp,h⟩:=hS
    injection h with h;injection h with h1 h2
    exact hH (.inr (.inr ⟨p,Gm.at hp,.inl h1⟩))
  · have e1:b≠p.1.blk:=fun e=>hH (.inr (.inr ⟨p,hp,.inl e⟩))
    have e2:b≠p.1.var:=fun e=>hH (.inr (.inr ⟨p,hp,.inr e⟩))
    rw [cell_set_ne (.inl e1),cell_set_ne (.inl e1),cell_set_ne (.inl e2)]
    exact hK p hp
  · obtain ⟨_,p,hp,e1,_⟩:=Gm.R0_seat h
    exact hch ⟨p,Gm.at hp,.inl (by rw [← e1];exact e.symm)⟩
set_option maxRecDepth 100000 in
set_option maxHeartbeats 8000000 in
theorem pick_calls (MW:MainB C Post gm Γ keep (fun _=>False) w) (GS:GSt C gm Γ keep steps w) (hfew:steps.length + 1 < 10000000) (p:Int) :
    CallsL Try.prog (LM Try.prog Post) (fun _=>True) 54 #[.pointer (some (c0 gm.gb 0)),.int .i64 p] (sitG gm) w (fun r s' w'=>r=.inl (.tuple #[])∧∃ gm' Γ' stp,C.Pick gm.ws.length Γ p Γ' stp∧s'=sitG gm'∧gm'.gb=gm.gb∧gm'.ws.length=gm.ws.length∧gm'.n0=gm.n0∧gm'.old=gm.old∧MainB C Post gm' Γ' keep (fun _=>False) w'∧GSt C gm' Γ' keep (steps ++ [stp]) w'∧(∀ x,keep x→w'.heap[x]?=w.heap[x]?)∧w.heap.size≤w'.heap.size):=by
  intro c cs _ hkd hcm h1 _
  have O:=ownM Try.prog Post
  have T:=O.toCtl
  have hq:(Try.prog.funcs[54]?).any (·.norace)=false:=by rw [Try.func54];rfl
  rw [enter_bk Try.func54 rfl]
  walk_nrmf Try.f54
  refine l_seq T ?_
  refine l_piece O (Y:=dyn0) closed0 hidesG ⟨_,Try.func54⟩ (by kernel_rfl) (slots_nil rfl _) MW.hid (R:=fun v a u=>u.heap[v.heap.size]?=some (.cells #[.int .i64 p,.int .i64 (-1),.bool false] stepT (0,0))∧(∀ k,k < v.heap.size→u.heap[k]?=v.heap[k]?)∧∃ y5 y6,a.tmps=#[.pointer (some (c0 gm.gb 0)),.int .i64 p,undef,undef,.pointer (some (c0 v.heap.size 0)),y5,y6,undef,undef,undef,undef,undef,undef,undef,undef,undef,undef,undef,undef,undef,undef,undef,undef,undef,undef,undef,undef,undef,undef,undef,undef,undef,undef,undef,undef,undef,undef,undef,undef,undef,undef,undef,undef,undef,undef,undef,undef,undef,undef,undef,undef,undef,undef,undef,undef,undef,undef,undef,undef,undef,undef,undef,undef,undef,undef,undef,undef,undef,undef,undef,undef]) (fun v M=>?_) (fun v ts v' w1 M hR A=>?_)
  · go_wp2
    refine ⟨Array.getElem_push_eq ..,fun k hk=>?_⟩
    show (v.heap.push _)[k]?=_
    rw [Array.getElem?_push_lt hk,Array.getElem?_eq_getElem hk]
  obtain ⟨htb,hnew,y5,y6,e⟩:=hR
  have e:ts=_:=e
  subst e
  have hsz:v.heap.size=w.heap.size:=M.size
  rw [hsz] at htb ⊢
  have htb1:=A.masked.cells htb
  have G1:Grow (c0 gm.gb 1) gm.H (fun _=>False) w w1:=A.grow M fun k hk _=>hnew k hk
  have MW1:=MW.grow G1 fun x h=>h.elim
  have F:=MW.free (x:=w.heap.size) (Nat.le_refl _)
  have low:∀ k,k < w.heap.size→¬ gm.H k→w1.heap[k]?=w.heap[k]?:=fun k h1 h2=>G1.low k h1 h2 id
  have kpH:∀ g,keep g→¬ gm.H g:=fun g hg=>(MW.kpfoot g hg).2.1
  have hkp1:∀ x,keep x→w1.heap[x]?=w.heap[x]?:=fun x hx=>low x (MW.kpfoot x hx).2.2.2 (kpH x hx)
  obtain ⟨wsv,stv,hG,hws,hwk,hst,hsk⟩:=GS.at_
  have hG1:=hG.grow G1 (.inl rfl)
  have hws1:=ownsRow_of (fun g hg=>low g (ownsRow_lt hws g hg) (kpH g (hwk g hg))) hws
  have hst1:=ownsRow_of (fun g hg=>low g (ownsRow_lt hst g hg) (hsk g hg).2.2.1) hst
  have hstlt:=ownsRow_lt hst
  have GS1:GSt C gm Γ keep steps w1:=⟨⟨wsv,stv,hG1,hws1,hwk,hst1,hsk⟩,GS.few⟩
  have huniq:∀ wsv' stv',GmG gm.gb wsv' stv' w1→stv'.ownBlock≠some w.heap.size:=fun wsv' stv' h e=>by
    have e1:=h.at3.symm.trans hG1.at3
    cases e1
    have:=hstlt _ e
    omega
  clear hG hws hst
  refine laW ?_
  have idle:C.Pick gm.ws.length Γ p Γ ⟨p,-1,false⟩→∀ w',MainB C Post gm Γ keep (fun _=>False) w'→GSt C gm Γ keep (steps ++ [⟨p,-1,false⟩]) w'→(∀ x,keep x→w'.heap[x]?=w1.heap[x]?)→w1.heap.size≤w'.heap.size→LM Try.prog Post (sitG gm) (G (c.finish (.tuple #[])) cs) w':=fun e w' a b d s=>h1 _ _ _ ⟨rfl,gm,Γ,_,e,rfl,rfl,rfl,rfl,rfl,a,b,fun x hx=>(d x hx).trans (hkp1 x hx),Nat.le_trans G1.size s⟩
  by_cases hp0:0≤p
  · have hb0:decide (0≤p)=true:=by simpa using hp0
    simp only [hb0]
    obtain ⟨ao,wcap,rfl⟩:∃ ao cap,wsv=.slice ao gm.ws.length cap:=by
      rcases hws1.2 with ⟨rfl,h0⟩ | ⟨g,cap,cur,rfl,_⟩
      · exact ⟨none,0,by rw [h0]⟩
      · exact ⟨_,_,rfl⟩
    have hc0:=hG1.at0
    have hns0:¬ ShunOf (gm.gb :: gm.old) (.cell ⟨gm.gb,0,none⟩):=by
      rintro ⟨k,hk,h⟩
      rcases h with h | h <;> (injection h with h;injection h with h1 h2;omega)
    have hne0:(⟨gm.gb,0,none⟩:Addr).off≠(c0 gm.gb 1).off:=by simp
    refine laW ?_
    (refine l_load O (by simp) rfl (by rfl) hc0 (.inr hne0) hns0 (fun w₁ hc₁=>⟨by go_simp,by simp [listed,go_sem,hc₁];exact seen_cell hq _ _ _⟩) ?_;walk_nrm)
    refine laW ?_
    by_cases hpn:p < gm.ws.length
    · have hb1:decide (p < (gm.ws.length:Int))=true:=by simpa using hpn
      simp only [hb1]
      obtain ⟨i,rfl⟩:=Int.eq_ofNat_of_zero_le hp0
      have hin:i < gm.ws.length:=by omega
      obtain ⟨⟨k,st⟩,hi⟩:∃ q,gm.ws[i]?=some q:=⟨_,List.getElem?_eq_getElem hin⟩
      obtain ⟨g,cap,eg,_,_,hcg⟩:=ownsRow_at hws1 (ws_at hi)
      cases eg
      have hgk:=hwk g rfl
      have hgH:=kpH g hgk
      have hneg:(⟨g,i,none⟩:Addr).block≠gm.gb:=fun e=>hgH (.inl e)
      have hnsg:¬ ShunOf (gm.gb :: gm.old) (.cell ⟨g,i,none⟩):=fun h=>hgH (shun_H (g:=gm) h)
      have hmem:=Gm.at hi
      have hbg:k.blk≠gm.gb:=(MW.wf.blk _ hmem).1
      have hW:=MW1.ws i _ hi
      have hns:∀ o,¬ ShunOf (gm.gb :: gm.old) (.cell ⟨k.blk,o,none⟩):=fun o=>MW.wf.noShun hmem o
      refine laW ?_
      (refine l_load O (by simp) rfl (by rfl) hc0 (.inr hne0) hns0 (fun w₁ hc₁=>⟨by go_simp,by simp [listed,go_sem,hc₁];exact seen_cell hq _ _ _⟩) ?_;walk_nrm)
      refine laW ?_
      (refine l_val T (v:=.pointer (some ⟨g,i,none⟩)) (by simp) rfl (by rfl) (fun w=>?_) (fun w=>?_) ?_;(focus go_simp);(focus (simp [go_sem,hin]));walk_nrm)
      (refine l_load O (by simp) rfl (by rfl) hcg (.inl hneg) hnsg (fun w₁ hc₁=>⟨by go_simp,by simp [listed,go_sem,hc₁];exact seen_cell hq _ _ _⟩) ?_;walk_nrm)
      refine laW ?_
      cases st with
      | gone=>exact hW.st.elim
      | done =>
        obtain ⟨hst0,kd,ov,hwk2⟩:C.stand (C.own i Γ)=none∧∃ kd ov,WkAt wkT k kd false ov (C.pan (C.own i Γ)) w1:=by
          rcases hW.st with ⟨_,a,b⟩ | ⟨h,_⟩
          · exact ⟨a,b⟩
          · exact h.elim
        have hc3:w1.cell? ⟨k.blk,3,none⟩=some (.bool false):=hwk2.cell 3
        have hns3:=hns 3
        (refine l_load O (by simp) rfl (by rfl) hc3 (.inl hbg) hns3 (fun w₁ hc₁=>⟨by go_simp,by simp [listed,go_sem,hc₁];exact seen_cell hq _ _ _⟩) ?_;walk_nrm)
        refine laW ?_
        (refine l_cond T false rfl ?_;simp only [if_true,if_false,Bool.false_eq_true,↓reduceIte])
        refine l_skip T ?_
        have e:C.Pick gm.ws.length Γ i Γ ⟨i,-1,false⟩:=by
          unfold Cli.Pick
          rw [if_pos ⟨by omega,by omega⟩]
          simp [hst0]
        have:=@pick_tail C Post gm Γ keep (fun _=>False) w1 steps ⟨i,-1,false⟩ w.heap.size i c cs
        simp only [seqR,Option.getD_some,Try.f54] at this
        exact @this _ _ _ _ _ _ _ _ _ _ _ _ _ _ _ _ _ _ _ _ _ _ _ _ _ _ _ _ _ _ _ _ _ _ _ _ _ _ _ _ _ _ _ _ _ _ _ _ _ _ _ _ _ _ _ _ MW1 GS1 hfew htb1 F.H huniq (idle e)
      | sits home fb =>
        obtain ⟨⟨kd,hst0,hwk2⟩,_,_,_⟩:=hW.st
        have hc3:w1.cell? ⟨k.blk,3,none⟩=some (.bool true):=hwk2.cell 3
        have hc2:w1.cell? ⟨k.blk,2,none⟩=some (.int .i64 kd):=hwk2.cell 2
        have hns3:=hns 3
        have hns2:=hns 2
        (refine l_load O (by simp) rfl (by rfl) hc3 (.inl hbg) hns3 (fun w₁ hc₁=>⟨by go_simp,by simp [listed,go_sem,hc₁];exact seen_cell hq _ _ _⟩) ?_;walk_nrm)
        refine laW ?_
        (refine l_cond T true rfl ?_;simp only [if_true,if_false,Bool.false_eq_true,↓reduceIte])
        refine laW ?_
        (refine l_load O (by simp) rfl (by rfl) hc0 (.inr hne0) hns0 (fun w₁ hc₁=>⟨by go_simp,by simp [listed,go_sem,hc₁];exact seen_cell hq _ _ _⟩) ?_;walk_nrm)
        refine laW ?_
        (refine l_val T (v:=.pointer (some ⟨g,i,none⟩)) (by simp) rfl (by rfl) (fun w=>?_) (fun w=>?_) ?_;(focus go_simp);(focus (simp [go_sem,hin]));walk_nrm)
        (refine l_load O (by simp) rfl (by rfl) hcg (.inl hneg) hnsg (fun w₁ hc₁=>⟨by go_simp,by simp [listed,go_sem,hc₁];exact seen_cell hq _ _ _⟩) ?_;walk_nrm)
        refine laW ?_
        (refine l_load O (by simp) rfl (by rfl) hc2 (.inl hbg) hns2 (fun w₁ hc₁=>⟨by go_simp,by simp [listed,go_sem,hc₁];exact seen_cell hq _ _ _⟩) ?_;walk_nrm)
        refine laW ?_
        obtain ⟨q1,q2,q3,q4,q5⟩:=own_store MW.wf F.H F.chan 1 (.int .i64 kd)
        have hct1:w1.cell? ⟨w.heap.size,1,none⟩=some (.int .i64 (-1)):=cell_of (a:=⟨w.heap.size,1,none⟩) htb1 rfl
        have hft:w1.frozen? ⟨w.heap.size,1,none⟩=false:=by unfold World.frozen?;simp only [htb1];simp
        (refine l_store O (by simp) rfl (by rfl) hct1 hft q1 q2 q3 q4 q5 (fun w₁ hc₁ hf₁=>⟨by go_simp,by simp [listed,go_sem,hc₁,hf₁];exact seen_cell hq _ _ _⟩) ?_;walk_nrm)
        refine laW ?_
        have hset:∀ x,x≠w.heap.size→(w1.setCell ⟨w.heap.size,1,none⟩ (.int .i64 kd)).heap[x]?=w1.heap[x]?:=fun x hx=>setCell_ne w1 ⟨w.heap.size,1,none⟩ _ hx
        have htb2:(w1.setCell ⟨w.heap.size,1,none⟩ (.int .i64 kd)).heap[w.heap.size]?=some (.cells #[.int .i64 i,.int .i64 kd,.bool false] stepT (0,0)):=setCell_self (a:=⟨w.heap.size,1,none⟩) _ htb1 rfl
        have G2:Grow (c0 gm.gb 1) gm.H (fun x=>x=w.heap.size) w1 (w1.setCell ⟨w.heap.size,1,none⟩ (.int .i64 kd)):=Grow.set MW1.hid _ _ F.H rfl
        have MW2:=MW1.grow G2 fun x h _=>by have h:x=w.heap.size:=h;subst h;exact F
        have hG2:=hG1.grow G2 (.inl rfl)
        have kpne:∀ x,keep x→x≠w.heap.size:=fun x hx e=>by have:=(MW.kpfoot x hx).2.2.2;omega
        have stne:∀ x,stv.ownBlock=some x→x≠w.heap.size:=fun x hx e=>by have:=hstlt x hx;omega
        have hws2:=ownsRow_of (fun x hx=>hset x (kpne x (hwk x hx))) hws1
        have hst2:=ownsRow_of (fun x hx=>hset x (stne x hx)) hst1
        have hkp2:∀ x,keep x→(w1.setCell ⟨w.heap.size,1,none⟩ (.int .i64 kd)).heap[x]?=w1.heap[x]?:=fun x hx=>hset x (kpne x hx)
        generalize hw2:w1.setCell ⟨w.heap.size,1,none⟩ (.int .i64 kd)=w2 at *
        have hc0':=hG2.at0
        have hcg':w2.cell? ⟨g,i,none⟩=some (.pointer (some (c0 k.blk 0))):=by rw [← hcg];unfold World.cell?;rw [show (⟨g,i,none⟩:Addr).block=g from rfl,hkp2 g hgk]
        (refine l_load O (by simp) rfl (by rfl) hc0' (.inr hne0) hns0 (fun w₁ hc₁=>⟨by go_simp,by simp [listed,go_sem,hc₁];exact seen_cell hq _ _ _⟩) ?_;walk_nrm)
        refine laW ?_
        (refine l_val T (v:=.pointer (some ⟨g,i,none⟩)) (by simp) rfl (by rfl) (fun w=>?_) (fun w=>?_) ?_;(focus go_simp);(focus (simp [go_sem,hin]));walk_nrm)
        (refine l_load O (by simp) rfl (by rfl) hcg' (.inl hneg) hnsg (fun w₁ hc₁=>⟨by go_simp,by simp [listed,go_sem,hc₁];exact seen_cell hq _ _ _⟩) ?_;walk_nrm)
        refine laW ?_
        (refine l_enter T (fn:=Try.f94) (c:=.skip) (g:=94) (xs:=#[.pointer (some (c0 k.blk 0))]) (by simp) rfl (by rfl) (fun w=>?_) (fun w=>?_) ?_;(focus go_simp);(focus (simp [go_sem,events_into Try.func94 (by kernel_rfl) (by kernel_rfl)])))
        have MW2':=MW2.less (keep':=fun x=>keep x∨x=w.heap.size∨stv.ownBlock=some x) (fun x hx=>by
          rcases hx with hx | rfl | hx
          · exact .inl hx
          · exact .inr ⟨F.foot,F.H,F.chan,(Array.getElem?_eq_some_iff.1 htb2).1⟩
          · exact .inr ⟨(hsk x hx).2.1,(hsk x hx).2.2.1,(hsk x hx).2.2.2,ownsRow_lt hst2 x hx⟩)
        refine on_calls MW2' id hi _ _ trivial (by simp [bk,Frame.at]) rfl (fun v s' w3 hP=>?_) (fun ch s' w3 hP=>by cases hP.1)
        obtain ⟨hv,st',Γ',nx,rfl,MW3',hkp3,⟨wr,r3,hgb3⟩,hsz3⟩:=hP
        cases hv
        have MW3:=MW3'.less (keep':=keep) fun x hx=>.inl (.inl hx)
        have hi':=put_at hi st'
        have hG3:=hG2.rw r3 hgb3
        have hws3:=ownsRow_of (fun x hx=>hkp3 x (.inl (hwk x hx))) hws2
        have hst3:=ownsRow_of (fun x hx=>hkp3 x (.inr (.inr hx))) hst2
        have htb3:=(hkp3 w.heap.size (.inr (.inl rfl))).trans htb2
        have hsk3:∀ x,stv.ownBlock=some x→¬ keep x∧¬ C.foot Γ' x∧¬ (gm.put i st').H x∧¬ (gm.put i st').chan x:=fun x hx=>⟨(hsk x hx).1,(MW3'.kpfoot x (.inr (.inr hx))).1,(MW3'.kpfoot x (.inr (.inr hx))).2.1,(MW3'.kpfoot x (.inr (.inr hx))).2.2.1⟩
        have hTH:=(MW3'.kpfoot w.heap.size (.inr (.inl rfl))).2.1
        have hTC:=(MW3'.kpfoot w.heap.size (.inr (.inl rfl))).2.2.1
        have hkpA:∀ x,keep x→w3.heap[x]?=w.heap[x]?:=fun x hx=>(hkp3 x (.inl hx)).trans ((hkp2 x hx).trans (hkp1 x hx))
        have hwsV:wsV (gm.put i st')=wsV gm:=by
          simp only [wsV,Gm.put]
          apply List.ext_getElem?
          intro j
          simp only [List.getElem?_map,List.getElem?_modify]
          split
          · cases gm.ws[j]? <;> rfl
          · cases gm.ws[j]? <;> rfl
        have hlen':(gm.put i st').ws.length=gm.ws.length:=put_len _
        have GS3:GSt C (gm.put i st') Γ' keep steps w3:=⟨⟨_,stv,hG3,by rw [hwsV,hlen'];exact hws3,hwk,hst3,hsk3⟩,GS.few⟩
        have hc03:=hG3.at0
        have hcg3:w3.cell? ⟨g,i,none⟩=some (.pointer (some (c0 k.blk 0))):=by rw [← hcg'];unfold World.cell?;rw [show (⟨g,i,none⟩:Addr).block=g from rfl,hkp3 g (.inl hgk)]
        rw [bk_finish rfl]
        walk_nrm
        have hns0':¬ ShunOf ((gm.put i st').gb :: (gm.put i st').old) (.cell ⟨gm.gb,0,none⟩):=hns0
        have hnsg':¬ ShunOf ((gm.put i st').gb :: (gm.put i st').old) (.cell ⟨g,i,none⟩):=hnsg
        have hns3':¬ ShunOf ((gm.put i st').gb :: (gm.put i st').old) (.cell ⟨k.blk,3,none⟩):=hns3
        refine laW ?_
        (refine l_load O (by simp) rfl (by rfl) hc03 (.inr hne0) hns0' (fun w₁ hc₁=>⟨by go_simp,by simp [listed,go_sem,hc₁];exact seen_cell hq _ _ _⟩) ?_;walk_nrm)
        refine laW ?_
        (refine l_val T (v:=.pointer (some ⟨g,i,none⟩)) (by simp) rfl (by rfl) (fun w=>?_) (fun w=>?_) ?_;(focus go_simp);(focus (simp [go_sem,hin]));walk_nrm)
        (refine l_load O (by simp) rfl (by rfl) hcg3 (.inl hneg) hnsg' (fun w₁ hc₁=>⟨by go_simp,by simp [listed,go_sem,hc₁];exact seen_cell hq _ _ _⟩) ?_;walk_nrm)
        refine laW ?_
        have hW3:=(MW3.ws i _ hi').st
        obtain ⟨b,kd',ov',pn',hwk3,hb⟩:∃ b kd ov pn,WkAt wkT k kd b ov pn w3∧(C.stand (C.own i Γ')).isNone=!b:=by
          cases st' with
          | sits hm x =>
            obtain ⟨⟨kd',a,b⟩,_⟩:=hW3
            exact ⟨_,_,_,_,b,by rw [a];rfl⟩
          | done =>
            rcases hW3 with ⟨_,a,kd',ov,b⟩ | ⟨h,_⟩
            · exact ⟨_,_,_,_,b,by rw [a];rfl⟩
            · exact h.elim
          | gone=>exact hW3.elim
        have hc33:w3.cell? ⟨k.blk,3,none⟩=some (.bool b):=hwk3.cell 3
        (refine l_load O (by simp) rfl (by rfl) hc33 (.inl hbg) hns3' (fun w₁ hc₁=>⟨by go_simp,by simp [listed,go_sem,hc₁];exact seen_cell hq _ _ _⟩) ?_;walk_nrm)
        refine laW ?_
        obtain ⟨q1,q2,q3,q4,q5⟩:=own_store (put_wf MW.wf i st') hTH hTC 2 (.bool (!b))
        have hct3:w3.cell? ⟨w.heap.size,2,none⟩=some (.bool false):=cell_of (a:=⟨w.heap.size,2,none⟩) htb3 rfl
        have hft3:w3.frozen? ⟨w.heap.size,2,none⟩=false:=by unfold World.frozen?;simp only [htb3];simp
        (refine l_store O (by simp) rfl (by rfl) hct3 hft3 q1 q2 q3 q4 q5 (fun w₁ hc₁ hf₁=>⟨by go_simp,by simp [listed,go_sem,hc₁,hf₁];rw [events_store Try.prog w₁ #[] _ (.bool (!b)) .plain rfl];simp only [hc₁,hf₁];exact seen_cell hq _ _ _⟩) ?_;walk_nrm)
        refine laW ?_
        have hset3:∀ x,x≠w.heap.size→(w3.setCell ⟨w.heap.size,2,none⟩ (.bool (!b))).heap[x]?=w3.heap[x]?:=fun x hx=>setCell_ne w3 ⟨w.heap.size,2,none⟩ _ hx
        have htb4:(w3.setCell ⟨w.heap.size,2,none⟩ (.bool (!b))).heap[w.heap.size]?=some (.cells #[.int .i64 i,.int .i64 kd,.bool (!b)] stepT (0,0)):=setCell_self (a:=⟨w.heap.size,2,none⟩) _ htb3 rfl
        have G4:Grow (c0 gm.gb 1) (gm.put i st').H (fun x=>x=w.heap.size) w3 (w3.setCell ⟨w.heap.size,2,none⟩ (.bool (!b))):=Grow.set MW3.hid _ _ hTH rfl
        have MW4:MainB C Post (gm.put i st') Γ' keep (fun _=>False) (w3.setCell ⟨w.heap.size,2,none⟩ (.bool (!b))):=MW3.grow (gm:=gm.put i st') G4 fun x h _=>by
          have h:x=w.heap.size:=h
          subst h
          exact ⟨(MW3'.kpfoot w.heap.size (.inr (.inl rfl))).1,hTH,hTC,MW3.notBox htb3 (by decide)⟩
        have GS4:GSt C (gm.put i st') Γ' keep steps (w3.setCell ⟨w.heap.size,2,none⟩ (.bool (!b))):=⟨⟨_,stv,hG3.grow G4 (.inl rfl),by rw [hwsV,hlen'];exact ownsRow_of (fun x hx=>hset3 x (kpne x (hwk x hx))) hws3,hwk,ownsRow_of (fun x hx=>hset3 x (stne x hx)) hst3,hsk3⟩,GS.few⟩
        have e:C.Pick gm.ws.length Γ i Γ' ⟨i,kd,!b⟩:=by
          unfold Cli.Pick
          rw [if_pos ⟨by omega,by omega⟩]
          simp [hst0,hb,nx]
        have huniq4:∀ wsv' stv',GmG (gm.put i st').gb wsv' stv' (w3.setCell ⟨w.heap.size,2,none⟩ (.bool (!b)))→stv'.ownBlock≠some w.heap.size:=fun wsv' stv' h e=>by
          have e1:=h.at3.symm.trans (hG3.grow G4 (.inl rfl)).at3
          cases e1
          have:=hstlt _ e
          omega
        have fin:∀ w',MainB C Post (gm.put i st') Γ' keep (fun _=>False) w'→GSt C (gm.put i st') Γ' keep (steps ++ [⟨i,kd,!b⟩]) w'→(∀ x,keep x→w'.heap[x]?=(w3.setCell ⟨w.heap.size,2,none⟩ (.bool (!b))).heap[x]?)→(w3.setCell ⟨w.heap.size,2,none⟩ (.bool (!b))).heap.size≤w'.heap.size→LM Try.prog Post (sitG (gm.put i st')) (G (c.finish (.tuple #[])) cs) w':=fun w' a b' d s=>h1 _ _ _ ⟨rfl,gm.put i st',Γ',_,e,rfl,rfl,hlen',rfl,rfl,a,b',fun x hx=>(d x hx).trans ((hset3 x (kpne x hx)).trans (hkpA x hx)),Nat.le_trans G1.size (Nat.le_trans G2.size (Nat.le_trans hsz3 (Nat.le_trans G4.size s)))⟩
        have:=@pick_tail C Post (gm.put i st') Γ' keep (fun _=>False) (w3.setCell ⟨w.heap.size,2,none⟩ (.bool (!b))) steps ⟨i,kd,!b⟩ w.heap.size i c cs
        simp only [seqR,Option.getD_some,Try.f54] at this
        exact @this _ _ _ _ _ _ _ _ _ _ _ _ _ _ _ _ _ _ _ _ _ _ _ _ _ _ _ _ _ _ _ _ _ _ _ _ _ _ _ _ _ _ _ _ _ _ _ _ _ _ _ _ _ _ _ _ MW4 GS4 hfew htb4 hTH huniq4 fin
    · have hb1:decide (p < (gm.ws.length:Int))=false:=by simpa using hpn
      simp only [hb1]
      refine laW ?_
      (refine l_cond T false rfl ?_;simp only [if_true,if_false,Bool.false_eq_true,↓reduceIte])
      refine l_skip T ?_
      have e:C.Pick gm.ws.length Γ p Γ ⟨p,-1,false⟩:=by unfold Cli.Pick;rw [if_neg (fun h=>hpn h.2)];exact ⟨rfl,rfl⟩
      have:=@pick_tail C Post gm Γ keep (fun _=>False) w1 steps ⟨p,-1,false⟩ w.heap.size p c cs
      simp only [seqR,Option.getD_some,Try.f54] at this
      exact @this _ _ _ _ _ _ _ _ _ _ _ _ _ _ _ _ _ _ _ _ _ _ _ _ _ _ _ _ _ _ _ _ _ _ _ _ _ _ _ _ _ _ _ _ _ _ _ _ _ _ _ _ _ _ _ _ MW1 GS1 hfew htb1 F.H huniq (idle e)
  · have hb0:decide (0≤p)=false:=by simpa using hp0
    simp only [hb0]
    refine laW ?_
    (refine l_cond T false rfl ?_;simp only [if_true,if_false,Bool.false_eq_true,↓reduceIte])
    refine l_skip T ?_
    have e:C.Pick gm.ws.length Γ p Γ ⟨p,-1,false⟩:=by unfold Cli.Pick;rw [if_neg (fun h=>hp0 h.1)];exact ⟨rfl,rfl⟩
    have:=@pick_tail C Post gm Γ keep (fun _=>False) w1 steps ⟨p,-1,false⟩ w.heap.size p c cs
    simp only [seqR,Option.getD_some,Try.f54] at this
    exact @this _ _ _ _ _ _ _ _ _ _ _ _ _ _ _ _ _ _ _ _ _ _ _ _ _ _ _ _ _ _ _ _ _ _ _ _ _ _ _ _ _ _ _ _ _ _ _ _ _ _ _ _ _ _ _ _ MW1 GS1 hfew htb1 F.H huniq (idle e)
end
end Go.Proofs.Ytndppafplgilbaa
