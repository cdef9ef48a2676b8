/-
  larchlaw04.BatonThins returns true for every input. No condition. (Part 41 of 49; joined by program.)
-/
import Derived.Test.YtndppafplgilbaaL40
import Derived.Laws.ResultCell
set_option linter.unusedVariables false
set_option linter.unusedSimpArgs false
set_option linter.unusedSectionVars false
set_option maxRecDepth 100000
namespace Go.Proofs.Ytndppafplgilbaa
open Go Go.Conc Go.RowKit
open Go.ConcN (sumTo upd sumTo_upd upd_ne upd_same)
def Cli.Runs (C:Cli) (n:Nat):C.G→List Int→C.G→List Stp→Prop
  | Γ,[],Γ',l=>Γ'=Γ∧l=[]
  | Γ,p :: ps,Γ',l=>∃ Γ1 s l',C.Pick n Γ p Γ1 s∧C.Runs n Γ1 ps Γ' l'∧l=s :: l'
theorem Cli.Runs.snoc {C:Cli} {n:Nat} {p:Int} {Γ1 Γ2:C.G} {s:Stp} (hp:C.Pick n Γ1 p Γ2 s):∀ {ps:List Int} {Γ:C.G} {l:List Stp},C.Runs n Γ ps Γ1 l→C.Runs n Γ (ps ++ [p]) Γ2 (l ++ [s])
  | [],Γ,l,⟨e1,e2⟩=>by
    subst e1;subst e2
    exact ⟨Γ2,s,[],hp,⟨rfl,rfl⟩,rfl⟩
  | q :: ps,Γ,l,⟨Γ3,s3,l3,h1,h2,e⟩=>by
    subst e
    exact ⟨Γ3,s3,l3 ++ [s],h1,Cli.Runs.snoc hp h2,rfl⟩
theorem Cli.Runs.len {C:Cli} {n:Nat}:∀ {ps:List Int} {Γ Γ':C.G} {l:List Stp},C.Runs n Γ ps Γ' l→l.length=ps.length
  | [],Γ,Γ',l,⟨_,e⟩=>by subst e;rfl
  | q :: ps,Γ,Γ',l,⟨_,_,l3,_,h2,e⟩=>by
    subst e
    simp [Cli.Runs.len h2]
theorem add_block (a:Addr) (j:Nat):(a.add j).block=a.block:=by unfold Addr.add;split <;> rfl
def NumsAt (keep:Nat→Prop) (o:Option Addr) (l:List Int) (w:World):Prop:=∀ j p,l[j]?=some p→∃ a,o=some a∧a.spot=none∧keep a.block∧w.cell? (a.add j)=some (.int .i64 p)
theorem NumsAt.kept {keep:Nat→Prop} {o:Option Addr} {l:List Int} {w w':World} (h:NumsAt keep o l w) (hk:∀ x,keep x→w'.heap[x]?=w.heap[x]?):NumsAt keep o l w':=fun j p hp=>by
  obtain ⟨a,e,hs,h1,h2⟩:=h j p hp
  refine ⟨a,e,hs,h1,?_⟩
  rw [← h2]
  unfold World.cell?
  rw [add_block,hk _ h1]
theorem results_cell_row_tmp {P:Program} {fn:Func} {p u:Tmp} {ty:TypeId} (h:fn.results=#[.cell p ty,.tmp u]) (tmps:Array Value) (w:World) (g:Nat) (t:TypeId) (cs:Array Value) (fr:Nat × Nat) (d:TypeDesc)
    (hp:tmps.getD p undef=.pointer (some ⟨g,0,none⟩)) (hg:w.heap[g]?=some (.cells cs t fr))
    (hu:P.underlying ty=some d) (hd:(match d with | .struct _ | .array _ _=>true | _=>false)=true) (hi:(P.info? ty).map (·.size)=some cs.size) :
    (results fn tmps).run P w=.ok (.tuple #[.agg cs,tmps.getD u undef]) w:=by
  rw [results_cell_tmp h,hp]
  simp [asAddr,run_loadVar_row w g t ty cs fr d hg hu hd hi,Result.andThen]
theorem zero_grow {st:Addr} {H row:Nat→Prop} {w w':World} (h:w.cell? st=some (.int .u64 0)) (G:Grow st H row w w') (hH:st.spot=none→H st.block):w'.cell? st=some (.int .u64 0):=by
  have hs:st.spot=none:=by obtain ⟨_,_,_,_,h3,_⟩:=cell_some h;exact h3
  obtain ⟨wr,r,hr⟩:=G.hid
  have e1:wr.cell? st=some (.int .u64 0):=by
    rcases r with ⟨d,rfl⟩ | ⟨n,n₁,d,h2,h3,rfl⟩
    · exact h
    · have h2:w.cell? st=some (.int .u64 (n * 4294967296:Nat)):=h2
      rw [h] at h2
      injection h2 with h2
      injection h2 with _ h2
      have h4:n₁=0:=by omega
      subst h4
      exact cell_set h
  unfold World.cell? at e1 ⊢
  rw [hr _ (hH hs)];exact e1
theorem ownsRow_one {base size n:Nat} {e:TypeId} {v:Value} {xs:List Value} {w:World} (h:w.ownsRow base e size v n xs):v.oneCell'=true:=by
  rcases h.2 with ⟨rfl,_⟩ | ⟨_,_,_,rfl,_⟩ <;> rfl
section
variable {Post:Value→World→Prop} {s:Sit} {w:World}
set_option maxRecDepth 100000 in
set_option maxHeartbeats 8000000 in
theorem check_calls {N M:Nat} {o:Option Addr} {cap:Nat} (h1:1≤N) (h2:N≤64) (h3:M≤1000000) :
    CallsL Try.prog (LM Try.prog Post) (fun _=>True) 46 #[.int .i64 N,.slice o M cap] s w (fun r s' w'=>r=.inl (.int .i64 0)∧s'=s∧w'=w):=by
  intro c cs _ hkd hcm hc _
  have O:=ownM Try.prog Post
  have T:=O.toCtl
  rw [enter_bk Try.func46 rfl]
  walk_nrmf Try.f46
  refine laW ?_
  refine l_block T ?_
  refine laW ?_
  have e1:decide ((N:Int) < 1)=false:=by simp;omega
  have e2:decide ((64:Int) < (N:Int))=false:=by simp;omega
  have e2':decide ((N:Int) > 64)=false:=by simp;omega
  have e3:decide ((1000000:Int) < (M:Int))=false:=by simp;omega
  have e3':decide ((M:Int) > 1000000)=false:=by simp;omega
  try simp only [e1]
  refine laW ?_
  try simp only [e2,e2']
  refine laW ?_
  (refine l_cond T false (by simp [Act.eval] <;> omega) ?_;simp only [if_true,if_false,Bool.false_eq_true,↓reduceIte])
  refine laW ?_
  try simp only [e3,e3']
  refine laW ?_
  (refine l_cond T false (by simp [Act.eval] <;> omega) ?_;simp only [if_true,if_false,Bool.false_eq_true,↓reduceIte])
  refine laW ?_
  refine l_inBlock T ?_
  refine laW ?_
  refine l_ret T ?_
  exact l_leave T Try.func46 rfl (resultsC_tmp rfl _) (hc _ _ _ ⟨rfl,rfl,rfl⟩)
end
theorem run_eq_funcnil {P:Program} (w:World) (d:Nat) (t:TypeId) {ps rs:Array TypeId} {vd:Bool} (h:P.underlying t=some (.func ps rs vd)) (f:Fn) (a c:Array Value):(Op.equalIn (d + 1) t (.func f a c) .nilFunc).run P w=.ok false w:=by
  simp [Op.equalIn,run_underlying h]
theorem events_eq_funcnil {P:Program} (w:World) (es:Array Event) (d:Nat) (t:TypeId) {ps rs:Array TypeId} {vd:Bool} (h:P.underlying t=some (.func ps rs vd)) (f:Fn) (a c:Array Value):(Op.equalIn (d + 1) t (.func f a c) .nilFunc).events P w es=es:=by
  simp [Op.equalIn,run_underlying h,Result.evThen]
noncomputable def runLoop:Code:=loopOf (blkOf (seqR (seqL (seqR (seqR (seqR (seqR (Try.f23.body.getD .skip))))))))
noncomputable def runRest:Code:=seqR (seqR (seqR (seqR (seqR (Try.f23.body.getD .skip)))))
section
variable {C:Cli} {Post:Value→World→Prop} {Γ:C.G} {keep:Nat→Prop} {w0:World} {old:List Nat} {gb n0 n rb M pcap:Nat} {po:Option Addr} {ps:List Int}
structure RunJ (C:Cli) (Post:Value→World→Prop) (Γ:C.G) (keep:Nat→Prop) (w0:World) (old:List Nat) (gb n0 n:Nat) (ps:List Int) (j:Nat) (gm:Gm) (Γ':C.G) (steps:List Stp) (w:World):Prop where
  runs:C.Runs n Γ (ps.take j) Γ' steps
  hold:gm.old=old
  hgb:gm.gb=gb
  hn0:gm.n0=n0
  hlen:gm.ws.length=n
  MW:MainB C Post gm Γ' keep (fun _=>False) w
  GS:GSt C gm Γ' keep steps w
  kept:∀ x,keep x→w.heap[x]?=w0.heap[x]?
  size:w0.heap.size≤w.heap.size
set_option maxRecDepth 100000 in
set_option maxHeartbeats 8000000 in
theorem run_rounds {c:Frame} {cs:List Frame} (hM:ps.length=M) (hM6:M≤1000000) (hps:NumsAt keep po ps w0)
    (Hend:∀ gm Γ' steps w,RunJ C Post Γ keep w0 old gb n0 n ps M gm Γ' steps w→∀ (j:Nat) (y0 y1 y2 y3 y4 y5 y7 y8 y10 y11 y12 y13 y14 y15 y16 y17 y18 y19 y20 y21 y22 y23 y24 y28 y29 y30 y31 y32 y33 y34 y35 y36:Value),LM Try.prog Post (sitG gm) (G ((bk 23 .normal).at ⟨#[y0,y1,y2,y3,y4,y5,.pointer (some (c0 rb 0)),y7,y8,.pointer (some (c0 gb 0)),y10,y11,y12,y13,y14,y15,y16,y17,y18,y19,y20,y21,y22,y23,y24,.slice po M pcap,.int .i64 (M:Int),.int .i64 (j:Int),y28,y29,y30,y31,y32,y33,y34,y35,y36],[]⟩ [.code runRest]) (c :: cs)) w) :
    ∀ d j gm Γ' steps w,j + d=M→RunJ C Post Γ keep w0 old gb n0 n ps j gm Γ' steps w→∀ y0 y1 y2 y3 y4 y5 y7 y8 y10 y11 y12 y13 y14 y15 y16 y17 y18 y19 y20 y21 y22 y23 y24 y28 y29 y30 y31 y32 y33 y34 y35 y36:Value,LM Try.prog Post (sitG gm) (G ((bk 23 .normal).at ⟨#[y0,y1,y2,y3,y4,y5,.pointer (some (c0 rb 0)),y7,y8,.pointer (some (c0 gb 0)),y10,y11,y12,y13,y14,y15,y16,y17,y18,y19,y20,y21,y22,y23,y24,.slice po M pcap,.int .i64 (M:Int),.int .i64 (j:Int),y28,y29,y30,y31,y32,y33,y34,y35,y36],[]⟩ [.code runLoop,.inLoop runLoop,.inBlock 0,.code runRest]) (c :: cs)) w:=by
  intro d
  induction d with
  | zero =>
    intro j gm Γ' steps w hj X y0 y1 y2 y3 y4 y5 y7 y8 y10 y11 y12 y13 y14 y15 y16 y17 y18 y19 y20 y21 y22 y23 y24 y28 y29 y30 y31 y32 y33 y34 y35 y36
    have O:=ownM Try.prog Post
    have T:=O.toCtl
    have hj:j=M:=by omega
    subst hj
    have key:=Hend gm Γ' steps w X j
    simp only [runLoop,seqL,seqR,blkOf,loopOf,Option.getD_some,Try.f23]
    refine laW ?_
    (refine l_cond T false (by simp [Act.eval] <;> omega) ?_;simp only [if_true,if_false,Bool.false_eq_true,↓reduceIte])
    refine l_exit T rfl ?_
    exact key _ _ _ _ _ _ _ _ _ _ _ _ _ _ _ _ _ _ _ _ _ _ _ _ _ _ _ _ _ _ _ _
  | succ d ih =>
    intro j gm Γ' steps w hj X y0 y1 y2 y3 y4 y5 y7 y8 y10 y11 y12 y13 y14 y15 y16 y17 y18 y19 y20 y21 y22 y23 y24 y28 y29 y30 y31 y32 y33 y34 y35 y36
    have O:=ownM Try.prog Post
    have T:=O.toCtl
    have hq:(Try.prog.funcs[23]?).any (·.norace)=false:=by rw [Try.func23];rfl
    have hjM:j < M:=by omega
    obtain ⟨p,hp⟩:∃ p,ps[j]?=some p:=⟨_,List.getElem?_eq_getElem (by omega)⟩
    obtain ⟨a,rfl,hsp,hka,hca⟩:=(hps.kept X.kept) j p hp
    simp only [runLoop,seqL,seqR,blkOf,loopOf,Option.getD_some,Try.f23]
    refine laW ?_
    (refine l_cond T true (by simp [Act.eval] <;> omega) ?_;simp only [if_true,if_false,Bool.false_eq_true,↓reduceIte])
    refine laW ?_
    refine l_block T ?_
    refine laW ?_
    (refine l_val T (v:=.pointer (some (a.add j))) (by simp) rfl (by rfl) (fun w=>?_) (fun w=>?_) ?_;(focus go_simp);(focus (simp [go_sem,hjM]));walk_nrm)
    have haH:=(X.MW.kpfoot _ hka).2.1
    have hnea:(a.add j).block≠gm.gb:=fun e=>haH (.inl ((add_block a j).symm.trans e))
    have hnsa:¬ ShunOf (gm.gb :: gm.old) (.cell (a.add j)):=fun h=>haH (by have:=shun_H (g:=gm) h;rwa [add_block] at this)
    (refine l_load O (by simp) rfl (by rfl) hca (.inl hnea) hnsa (fun w₁ hc₁=>⟨by go_simp,by simp [listed,go_sem,hc₁];exact seen_cell hq _ _ _⟩) ?_;walk_nrm)
    refine laW ?_
    have eg:=X.hgb
    subst eg
    (refine l_enter T (fn:=Try.f54) (c:=.skip) (g:=54) (xs:=#[.pointer (some (c0 gm.gb 0)),.int .i64 p]) (by simp) rfl (by rfl) (fun w=>?_) (fun w=>?_) ?_;(focus go_simp);(focus (simp [go_sem,events_into Try.func54 (by kernel_rfl) (by kernel_rfl)])))
    refine pick_calls X.MW X.GS (by rw [X.runs.len,List.length_take];omega) p _ _ trivial (by simp [bk,Frame.at]) rfl (fun v s' w' hP=>?_) (fun ch s' w' hP=>by cases hP.1)
    obtain ⟨hv,gm',Γ2,s2,pk,rfl,g1,g2,g3,g4,MW',GS',hk',hs'⟩:=hP
    cases hv
    rw [bk_finish rfl]
    walk_nrm
    have X':RunJ C Post Γ keep w0 old gm.gb n0 n ps (j + 1) gm' Γ2 (steps ++ [s2]) w':=by
      have e:ps.take (j + 1)=ps.take j ++ [p]:=by rw [List.take_add_one,hp];rfl
      refine ⟨?_,g4.trans X.hold,g1,g3.trans X.hn0,g2.trans X.hlen,MW',GS',fun x hx=>(hk' x hx).trans (X.kept x hx),Nat.le_trans X.size hs'⟩
      rw [e];rw [X.hlen] at pk;exact Cli.Runs.snoc pk X.runs
    have key:=ih (j + 1) gm' Γ2 _ w' (by omega) X'
    simp only [runLoop,runRest,seqL,seqR,blkOf,loopOf,Option.getD_some,Try.f23] at key ⊢
    refine laW ?_
    refine l_inBlock T ?_
    refine laW ?_
    have ew:IntKind.i64.wrap ((j:Int) + 1)=((j + 1:Nat):Int):=by rw [IntKind.wrap_i64];omega
    try simp only [ew]
    refine l_inLoop T ?_
    exact key _ _ _ _ _ _ _ _ _ _ _ _ _ _ _ _ _ _ _ _ _ _ _ _ _ _ _ _ _ _ _ _
end
end Go.Proofs.Ytndppafplgilbaa
namespace Go.Proofs.Ytndppafplgilbaa
open Go Go.Conc Go.RowKit
open Go.ConcN (sumTo upd sumTo_upd upd_ne upd_same)
section
variable {C:Cli} {Post:Value→World→Prop} {Γ:C.G} {keep:Nat→Prop} {n0 n M pcap:Nat} {po:Option Addr} {ps:List Int}
set_option maxRecDepth 100000 in
set_option maxHeartbeats 8000000 in
theorem run_calls {l:List Nat} {st:Addr} {w:World} {bf:FuncId} {bfn:Func} {bcap:Array Value} (X:Pre C Γ keep l st n0 w) (hn1:1≤n) (hn2:n≤64) (hM:ps.length=M) (hM6:M≤1000000) (hps:NumsAt keep po ps w) (HF:BodyF bf bfn) (HB:∀ gb i k Γ',i < n→C.Upto Γ i Γ'→BodyOk C n0 gb i k Post (C.own i Γ') bf bcap) :
    CallsL Try.prog (LM Try.prog Post) (fun _=>True) 23 #[.int .i64 n,.slice po M pcap,.func (.func bf) #[] bcap] (sitI l st n0) w (fun r s' w'=>∃ gb tv Γ1 Γ2 steps,C.Upto Γ n Γ1∧C.Runs n Γ1 ps Γ2 steps∧r=.inl (.tuple #[tv,.int .i64 0])∧w.heap.size≤gb∧s'=sitI (gb :: l) (c0 gb 1) (n0 + n)∧w'.cell? (c0 gb 1)=some (.int .u64 0)∧Aft C Γ2 keep (gb :: l) n steps w tv w'):=by
  intro c cs _ hkd hcm h1 _
  have O:=ownM Try.prog Post
  have T:=O.toCtl
  have hh:=hidesI (n:=n0) X.stl
  rw [enter_bk Try.func23 rfl]
  walk_nrmf Try.f23
  refine laW ?_
  refine l_new O hh (by simp) X.hid rfl (by rfl) (by kernel_rfl) (fun n=>.pointer (some (c0 n 0))) (c:=#[.slice none 0 0,.slice none 0 0,.slice none 0 0]) (t:=toldT) (fun v=>by go_simp) (fun w1 hn1' G1 hl1=>?_)
  walk_nrm
  refine laW ?_
  refine l_val T (v:=.bool false) (by simp) rfl (by rfl) (fun w=>?_) (fun w=>?_) ?_
  · have e:=run_eq_funcnil (P:=Try.prog) w 9999 _ Try.underlying58 (.func bf) #[] bcap
    go_simp
    simp [binOp,Op.equal,Op.maxDepth,e]
  · have e:=events_eq_funcnil (P:=Try.prog) w #[] 9999 _ Try.underlying58 (.func bf) #[] bcap
    have e2:=run_eq_funcnil (P:=Try.prog) w 9999 _ Try.underlying58 (.func bf) #[] bcap
    simp [go_sem,binOp,Op.equal,Op.maxDepth,e,e2,Result.evThen]
  walk_nrm
  refine laW ?_
  (refine l_cond T false (by simp [Act.eval] <;> omega) ?_;simp only [if_true,if_false,Bool.false_eq_true,↓reduceIte])
  refine laW ?_
  (refine l_enter T (fn:=Try.f46) (c:=.skip) (g:=46) (xs:=#[.int .i64 n,.slice po M pcap]) (by simp) rfl (by rfl) (fun w=>?_) (fun w=>?_) ?_;(focus go_simp);(focus (simp [go_sem,events_into Try.func46 (by kernel_rfl) (by kernel_rfl)])))
  refine check_calls hn1 hn2 hM6 _ _ trivial (by simp [bk,Frame.at]) rfl (fun v s' w' hP=>?_) (fun ch s' w' hP=>by cases hP.1)
  obtain ⟨hv,rfl,rfl⟩:=hP
  cases hv
  rw [bk_finish rfl]
  walk_nrm
  refine laW ?_
  (refine l_cond T false (by simp [Act.eval] <;> omega) ?_;simp only [if_true,if_false,Bool.false_eq_true,↓reduceIte])
  refine laW ?_
  (refine l_enter T (fn:=Try.f53) (c:=.skip) (g:=53) (xs:=#[.int .i64 n,.func (.func bf) #[] bcap]) (by simp) rfl (by rfl) (fun w=>?_) (fun w=>?_) ?_;(focus go_simp);(focus (simp [go_sem,events_into Try.func53 (by kernel_rfl) (by kernel_rfl)])))
  have hlt:∀ x,x∈l→x < w.heap.size:=fun x hx=>by
    obtain ⟨_,_,a,_⟩:=X.hid x hx
    exact (Array.getElem?_eq_some_iff.1 a).1
  have lowK:∀ x,keep x→w'.heap[x]?=w.heap[x]?:=fun x hx=>G1.low x (X.kpfoot x hx).2.2 (X.kpfoot x hx).2.1 id
  have hold1:st.spot≠none∨w'.cell? st=some (.int .u64 0):=X.old.imp id fun h=>zero_grow h G1 X.stl
  have X1:Pre C Γ (fun x=>keep x∨x=w.heap.size) l st n0 w':=by
    refine ⟨C.stable _ _ _ X.M fun x hx=>G1.low x (C.low _ _ X.M x hx) (fun h=>X.lfoot x h hx) id,G1.ok,X.lfoot,fun x hx=>?_,X.stl,hold1,X.pos⟩
    rcases hx with hx | rfl
    · exact ⟨(X.kpfoot x hx).1,(X.kpfoot x hx).2.1,Nat.lt_of_lt_of_le (X.kpfoot x hx).2.2 G1.size⟩
    · exact ⟨fun h=>by have:=C.low _ _ X.M _ h;omega,fun h=>by have:=hlt _ h;omega,hl1⟩
  refine begin_calls X1 (by omega) HF HB _ _ trivial (by simp [bk,Frame.at]) rfl (fun v s' w2 hP=>?_) (fun ch s' w2 hP=>by obtain ⟨_,_,_,_,h,_⟩:=hP;cases h)
  obtain ⟨gm,wk,Γ1,hup,hv,rfl,g1,g2,g3,MW,GS,hk2,hs2,hgb2⟩:=hP
  cases hv
  rw [bk_finish rfl]
  walk_nrm
  refine laW ?_
  refine l_block T ?_
  refine l_loop T ?_
  have X0:RunJ C Post Γ1 (fun x=>(keep x∨x=w.heap.size)∨wk x) w2 l gm.gb n0 n ps 0 gm Γ1 [] w2:=⟨⟨rfl,rfl⟩,g1,rfl,g2,g3,MW,GS,fun _ _=>rfl,Nat.le_refl _⟩
  have hps2:NumsAt (fun x=>(keep x∨x=w.heap.size)∨wk x) po ps w2:=fun j p hp=>by
    obtain ⟨a,e,hs,h2,h3⟩:=hps j p hp
    refine ⟨a,e,hs,.inl (.inl h2),?_⟩
    rw [← h3]
    unfold World.cell?
    rw [add_block,hk2 _ (.inl h2),lowK _ h2]
  have key:=run_rounds (c:=c) (cs:=cs) (rb:=w.heap.size) (pcap:=pcap) hM hM6 hps2 (fun gm' Γ2 steps w3 Y j=>?_) M 0 gm Γ1 [] w2 (by omega) X0
  · simp only [runLoop,runRest,seqL,seqR,blkOf,loopOf,Option.getD_some,Try.f23] at key
    exact key _ _ _ _ _ _ _ _ _ _ _ _ _ _ _ _ _ _ _ _ _ _ _ _ _ _ _ _ _ _ _ _
  · intro y0 y1 y2 y3 y4 y5 y7 y8 y10 y11 y12 y13 y14 y15 y16 y17 y18 y19 y20 y21 y22 y23 y24 y28 y29 y30 y31 y32 y33 y34 y35 y36
    simp only [runRest,seqR,Option.getD_some,Try.f23]
    have eT:ps.take M=ps:=by rw [← hM];exact List.take_length
    refine laW ?_
    have eg:=Y.hgb
    (refine l_enter T (fn:=Try.f55) (c:=.skip) (g:=55) (xs:=#[.pointer (some (c0 gm.gb 0))]) (by simp) rfl (by rfl) (fun w=>?_) (fun w=>?_) ?_;(focus go_simp);(focus (simp [go_sem,events_into Try.func55 (by kernel_rfl) (by kernel_rfl)])))
    rw [← eg]
    refine close_calls Y.MW Y.GS _ _ trivial (by simp [bk,Frame.at]) rfl (fun v s' w4 hP=>?_) (fun ch s' w4 hP=>by obtain ⟨_,h,_⟩:=hP;cases h)
    obtain ⟨tv,hv,rfl,hc4,A⟩:=hP
    cases hv
    rw [bk_finish rfl]
    walk_nrm
    have hA:=A
    rw [Y.hlen,Y.hold] at hA
    have hR:=Y.runs
    rw [eT] at hR
    rw [Y.hlen,Y.hn0,Y.hold]
    rw [eg] at hA hc4 ⊢
    obtain ⟨stv,ev,pv,rfl,hst,hev,hpv,hap,hown⟩:=hA.tv
    have rbK:(keep w.heap.size∨w.heap.size=w.heap.size)∨wk w.heap.size:=.inl (.inr rfl)
    have hrb4:w4.heap[w.heap.size]?=some (.cells #[.slice none 0 0,.slice none 0 0,.slice none 0 0] toldT (0,0)):=(A.kept _ rbK).trans ((Y.kept _ rbK).trans ((hk2 _ (.inr rfl)).trans hn1'))
    have hrbl:w.heap.size ∉ gm.gb :: l:=fun h=>by
      rcases List.mem_cons.1 h with h | h
      · omega
      · have:=hlt _ h;omega
    have hh4:=hidesI (l:=gm.gb :: l) (st:=c0 gm.gb 1) (n:=n0 + n) (fun _=>List.mem_cons_self ..)
    refine laW ?_
    refine l_storeRow O hh4 (cells:=#[stv,ev,pv]) (by simp) hA.hid rfl (by rfl) rfl (by simp [Act.eval]) (by simp [Act.eval]) hrb4 hrbl (by kernel_rfl) rfl (by simp [ownsRow_one hst,ownsRow_one hev,ownsRow_one hpv]) (fun w5 hrb5 G5 hs5=>?_)
    walk_nrm
    refine laW ?_
    refine l_ret T ?_
    refine l_leaveM O hh4 G5.ok (val:=.tuple #[.agg #[stv,ev,pv],.int .i64 0]) Try.func23 (fun v M=>?_) (fun w6 G6 hs6=>?_)
    · exact results_cell_row_tmp (fn:=Try.f23) (p:=6) (u:=7) rfl _ v w.heap.size toldT #[stv,ev,pv] (0,0) _ (by simp) (M.seen hrbl hrb5) Try.underlying36 (by rfl) (by kernel_rfl)
    · have hc6:=zero_grow (zero_grow hc4 G5 (fun _=>List.mem_cons_self ..)) G6 (fun _=>List.mem_cons_self ..)
      have low:∀ x,x < w4.heap.size→x ∉ gm.gb :: l→x≠w.heap.size→w6.heap[x]?=w4.heap[x]?:=fun x h1 h2 h3=>(G6.low x (by omega) h2 id).trans (G5.low x h1 h2 h3)
      have hkl:∀ x,keep x→x ∉ gm.gb :: l∧x≠w.heap.size:=fun x hx=>⟨fun h=>by
        rcases List.mem_cons.1 h with h | h
        · have:=(X.kpfoot x hx).2.2;have:=G1.size;omega
        · exact (X.kpfoot x hx).2.1 h,fun e=>by have:=(X.kpfoot x hx).2.2;omega⟩
      have ne:∀ g,stv.ownBlock=some g∨ev.ownBlock=some g∨pv.ownBlock=some g→g ∉ gm.gb :: l∧g≠w.heap.size:=fun g hg=>⟨(hown g hg).2.2,fun e=>(hown g hg).1 (.inl (.inr e))⟩
      refine h1 _ _ _ ⟨gm.gb,_,Γ1,Γ2,steps,hup,hR,rfl,by have:=G1.size;omega,rfl,hc6,⟨⟨stv,ev,pv,rfl,?_,?_,?_,hap,fun g hg=>⟨fun h=>(hown g hg).1 (.inl (.inl h)),(hown g hg).2⟩⟩,?_,G6.ok,fun x hx=>?_,?_,hA.lfoot,fun x hx=>hA.kpfoot x (.inl (.inl hx))⟩⟩
      · exact ownsRow_of (fun g hg=>low g (ownsRow_lt hst g hg) (ne g (.inl hg)).1 (ne g (.inl hg)).2) hst
      · exact ownsRow_of (fun g hg=>low g (ownsRow_lt hev g hg) (ne g (.inr (.inl hg))).1 (ne g (.inr (.inl hg))).2) hev
      · exact ownsRow_of (fun g hg=>low g (ownsRow_lt hpv g hg) (ne g (.inr (.inr hg))).1 (ne g (.inr (.inr hg))).2) hpv
      · exact C.stable _ _ _ hA.M fun x hx=>low x (C.low _ _ hA.M x hx) (fun h=>hA.lfoot x h hx) fun e=>hA.kpfoot _ rbK (e ▸ hx)
      · have h2:w4.heap[x]?=w.heap[x]?:=(A.kept x (.inl (.inl hx))).trans ((Y.kept x (.inl (.inl hx))).trans ((hk2 x (.inl hx)).trans (lowK x hx)))
        have h3:x < w4.heap.size:=by have a1:=A.size;have a2:=Y.size;have a3:=(X.kpfoot x hx).2.2;have:=G1.size;omega
        exact (low x h3 (hkl x hx).1 (hkl x hx).2).trans h2
      · have a1:=A.size;have a2:=Y.size;have:=G1.size;have:=G5.size;have:=G6.size;omega
end
end Go.Proofs.Ytndppafplgilbaa
