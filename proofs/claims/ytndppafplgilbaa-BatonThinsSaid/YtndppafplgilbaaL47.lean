/-
  larchlaw04.BatonThins returns true for every input. No condition. (Part 47 of 49; joined by program.)
-/
import Derived.Test.YtndppafplgilbaaL44
import Derived.Test.YtndppafplgilbaaL46
import Derived.Test.YtndppafplgilbaaL35
import Derived.Test.YtndppafplgilbaaL37
import Derived.Test.YtndppafplgilbaaL31
import Derived.Test.YtndppafplgilbaaL34
import Derived.Test.YtndppafplgilbaaL45
import Derived.Test.YtndppafplgilbaaL43
import Derived.Test.YtndppafplgilbaaL28
set_option linter.unusedVariables false
set_option linter.unusedSimpArgs false
set_option linter.unusedSectionVars false
set_option maxRecDepth 100000
namespace Go.Proofs.Ytndppafplgilbaa
open Go Go.Conc Go.RowKit
open Go.ConcN (sumTo upd sumTo_upd upd_ne upd_same)
noncomputable def awB2:Code:=seqR (seqR (Try.f11.body.getD .skip))
section
variable {Post:Value→World→Prop}
set_option maxRecDepth 100000 in
set_option maxHeartbeats 8000000 in
theorem awake_b {c:Frame} {cf:List Frame} {l:List Nat} {st:Addr} {n0:Nat} {w8:World} {pB sg scp fcap:Nat} {fa:Option Addr} {ev pv anv:Value} {scur:Array Value} (hst:st.spot=none→st.block∈l) (ok:HidOk (fun k=>k∈l) w8)
    (h8:w8.heap[pB]?=some (.cells #[.slice (some ⟨sg,0,none⟩) 4 scp,ev,pv,anv,.slice fa 1 fcap] 38 (0,0))) (hpH:pB ∉ l) (hfi:IntsIn w8 fa [10]) (hfaH:∀ g off,fa=some ⟨g,off,none⟩→([10]:List Int)≠[]→g ∉ l)
    (k1:w8.heap[sg]?=some (.cells scur stepT (0,0))) (k4:scur.size=scp * 3) (k3:4≤scp) (k5:scur.toList.take (4 * 3)=stepsV [⟨1,1,false⟩,⟨0,3,false⟩,⟨1,2,true⟩,⟨0,3,true⟩]) (hsgH:sg ∉ l)
    (H:∀ w',Grow st (fun k=>k∈l) (fun _=>False) w8 w'→LM Try.prog Post (sitI l st n0) (G (c.finish (.bool true)) cf) w') :
    ∀ y0 y3 y4 y5 y6 y7 y8 y9 y10 y11 y12 y13 y14 y15 y16 y17 y18 y19 y20 y21 y22 y23 y24 y25 y26 y27 y28 y29 y30 y31 y32 y33 y34 y35 y36 y37 y38 y39:Value,LM Try.prog Post (sitI l st n0) (G ((bk 11 .normal).at ⟨#[y0,.pointer (some (c0 pB 0)),.int .i64 0,y3,y4,y5,y6,y7,y8,y9,y10,y11,y12,y13,y14,y15,y16,y17,y18,y19,y20,y21,y22,y23,y24,y25,y26,y27,y28,y29,y30,y31,y32,y33,y34,y35,y36,y37,y38,y39],[]⟩ [.code awB2]) (c :: cf)) w8:=by
  intro y0 y3 y4 y5 y6 y7 y8 y9 y10 y11 y12 y13 y14 y15 y16 y17 y18 y19 y20 y21 y22 y23 y24 y25 y26 y27 y28 y29 y30 y31 y32 y33 y34 y35 y36 y37 y38 y39
  have O:=ownM Try.prog Post
  have T:=O.toCtl
  have hq:(Try.prog.funcs[11]?).any (·.norace)=false:=by rw [Try.func11];rfl
  have hh:=hidesI (n:=n0) hst
  have c4:w8.cell? ⟨pB,4,none⟩=some (.slice fa 1 fcap):=cell_of_heap h8 rfl
  have c0':w8.cell? ⟨pB,0,none⟩=some (.slice (some ⟨sg,0,none⟩) 4 scp):=cell_of_heap h8 rfl
  have nl:∀ k,w8.heap.size≤k→k ∉ l:=fun k h1 h2=>by have:=ok.lt h2;omega
  have hpl:=(Array.getElem?_eq_some_iff.1 h8).1
  have K5:=Lib.hid k5
  have K1:=Lib.hid k1
  have Hfi:=Lib.hid hfi
  have HfaH:=Lib.hid hfaH
  have Nl:=Lib.hid nl
  clear k5 k1 h8 hfi hfaH nl
  simp only [awB2,seqR,Option.getD_some,Try.f11]
  refine laW ?_
  (refine l_loadH O hh (by simp) rfl (by rfl) c4 hpH (fun w₁ hc₁=>⟨by go_simp,by simp [listed,go_sem,hc₁];exact seen_cell hq _ _ _⟩) ?_;walk_nrm)
  refine laW ?_
  refine l_new O hh (by simp) ok rfl (by rfl) (by kernel_rfl) (fun k=>.slice (some ⟨k,0,none⟩) 1 1) (c:=#[.int .i64 10]) (t:=3) (fun v=>by go_simp) (fun w9 h9 G9 s9=>?_)
  walk_nrm
  refine laW ?_
  (refine l_enter T (fn:=Try.f18) (c:=.skip) (g:=18) (xs:=#[.slice fa 1 fcap,.slice (some ⟨w8.heap.size,0,none⟩) 1 1]) (by simp) rfl (by rfl) (fun w=>?_) (fun w=>?_) ?_;(focus go_simp);(focus (simp [go_sem,events_into Try.func18 (by kernel_rfl) (by kernel_rfl)])))
  refine ints_calls O hh G9.ok (l:=[10]) rfl rfl (Hfi.out.keptH HfaH.out fun k h1 h2=>G9.low k h1 h2 id) (fun j hj=>by
    match j,hj with
    | 0,_=>exact ⟨_,_,rfl,cell_of_heap h9 rfl⟩) HfaH.out (fun g off e _=>by cases e;exact Nl.out _ (Nat.le_refl _)) (by decide) _ _ (Sk:=fun _=>True) trivial (by simp [bk,Frame.at]) rfl (fun v s' w10 hP=>?_) (fun ch s' w' hP=>by cases hP.1)
  obtain ⟨hv,rfl,G10⟩:=hP
  cases hv
  rw [bk_finish rfl]
  walk_nrm
  have G810:Grow st (fun k=>k∈l) (fun _=>False) w8 w10:=G9.transN hst G10 (fun _ h=>h) (fun _ _ h=>h)
  have c10:w10.cell? ⟨pB,0,none⟩=some (.slice (some ⟨sg,0,none⟩) 4 scp):=by rw [cell_of_block (G810.low _ hpl hpH id)];exact c0'
  have k10:w10.heap[sg]?=some (.cells scur stepT (0,0)):=(G810.low sg (Array.getElem?_eq_some_iff.1 K1.out).1 hsgH id).trans K1.out
  have K10:=Lib.hid k10
  clear k10 h9 c0' c4
  refine laW ?_
  (refine l_loadH O hh (by simp) rfl (by rfl) c10 hpH (fun w₁ hc₁=>⟨by go_simp,by simp [listed,go_sem,hc₁];exact seen_cell hq _ _ _⟩) ?_;walk_nrm)
  refine laW ?_
  (refine l_loadH O hh (by simp) rfl (by rfl) c10 hpH (fun w₁ hc₁=>⟨by go_simp,by simp [listed,go_sem,hc₁];exact seen_cell hq _ _ _⟩) ?_;walk_nrm)
  refine laW ?_
  have hcells:∀ i,i < 12→scur[i]?=(stepsV [⟨1,1,false⟩,⟨0,3,false⟩,⟨1,2,true⟩,⟨0,3,true⟩])[i]?:=fun i hi=>by
    have e:(scur.toList.take (4 * 3))[i]?=(stepsV [⟨1,1,false⟩,⟨0,3,false⟩,⟨1,2,true⟩,⟨0,3,true⟩])[i]?:=by rw [K5.out]
    rw [List.getElem?_take,if_pos (by omega)] at e
    rw [← Array.getElem?_toList,e]
  have Hc:=Lib.hid hcells
  clear hcells
  refine l_loadMid O hh (by simp) G10.ok rfl (by rfl) rfl (g:=sg) (off:=6) (vs:=[.int .i64 1,.int .i64 2,.bool true]) (by simp [Act.eval]) K10.out hsgH (fun j v hj=>?_) Try.underlying49 (by rfl) (by kernel_rfl) (fun w11 G11 s11=>?_)
  · match j,hj with
    | 0,hj=>cases hj;rw [Hc.out 6 (by decide)];rfl
    | 1,hj=>cases hj;rw [Hc.out 7 (by decide)];rfl
    | 2,hj=>cases hj;rw [Hc.out 8 (by decide)];rfl
  walk_nrm
  refine laW ?_
  refine l_val T (v:=.bool true) (by simp) rfl (by rfl) (fun w=>?_) (fun w=>?_) ?_
  · kernel_rfl
  · kernel_rfl
  walk_nrm
  refine laW ?_
  refine l_ret T ?_
  refine l_leave T Try.func11 rfl (resultsC_tmp rfl _) ?_
  exact H w11 (G810.transN hst G11 (fun _ h=>h) (fun _ _ h=>h))
end
end Go.Proofs.Ytndppafplgilbaa
namespace Go.Proofs.Ytndppafplgilbaa
open Go Go.Conc Go.RowKit
open Go.ConcN (sumTo upd sumTo_upd upd_ne upd_same)
def awA0:List A4:=[⟨3,0,1,0⟩,⟨3,0,1,0⟩]
def awA1:List A4:=[⟨1,0,0,0⟩,⟨2,0,9,0⟩]
theorem aw_cells:((PQ.start [0] [awA0,awA1]).runs [awA0,awA1].length [1,0,1,0]).1.cs=[10]:=by kernel_rfl
theorem aw_steps:((PQ.start [0] [awA0,awA1]).runs [awA0,awA1].length [1,0,1,0]).2=[⟨1,1,false⟩,⟨0,3,false⟩,⟨1,2,true⟩,⟨0,3,true⟩]:=by kernel_rfl
structure Awoke (l:List Nat) (gb:Nat) (w w':World):Prop where
  hid:HidOk (fun k=>k∈gb :: l) w'
  hgb:w.heap.size≤gb
  cnt:w'.cell? (c0 gb 1)=some (.int .u64 0)
  low:∀ k,k < w.heap.size→k ∉ l→w'.heap[k]?=w.heap[k]?
  size:w.heap.size≤w'.heap.size
section
variable {Post:Value→World→Prop}
set_option maxRecDepth 100000 in
set_option maxHeartbeats 8000000 in
theorem awake_a {c:Frame} {cf:List Frame} {l:List Nat} {st:Addr} {n0:Nat} {w:World} (hst:st.spot=none→st.block∈l) (ok:HidOk (fun k=>k∈l) w) (old:st.spot≠none∨w.cell? st=some (.int .u64 0)) (pos:0 < n0)
    (H:∀ gb w',Awoke l gb w w'→LM Try.prog Post (sitI (gb :: l) (c0 gb 1) (n0 + 2)) (G (c.finish (.bool true)) cf) w') :
    LM Try.prog Post (sitI l st n0) (G (Frame.enter Try.prog 11 #[] .normal) (c :: cf)) w:=by
  have O:=ownM Try.prog Post
  have T:=O.toCtl
  have hh:=hidesI (n:=n0) hst
  rw [enter_bk Try.func11 rfl]
  walk_nrmf Try.f11
  refine laW ?_
  refine l_new O hh (by simp) ok rfl (by rfl) (by kernel_rfl) (fun k=>.slice (some ⟨k,0,none⟩) 1 1) (c:=#[.int .i64 0]) (t:=3) (fun v=>by go_simp) (fun w1 h1 G1 s1=>?_)
  walk_nrm
  refine laW ?_
  refine l_new O hh (by simp) G1.ok rfl (by rfl) (by kernel_rfl) (fun k=>.slice (some ⟨k,0,none⟩) 2 2) (c:=#[.int .i64 3,.int .i64 0,.int .i64 1,.int .i64 0,.int .i64 3,.int .i64 0,.int .i64 1,.int .i64 0]) (t:=103) (fun v=>by clear h1;go_simp) (fun w2 h2 G2 s2=>?_)
  walk_nrm
  refine laW ?_
  refine l_new O hh (by simp) G2.ok rfl (by rfl) (by kernel_rfl) (fun k=>.slice (some ⟨k,0,none⟩) 2 2) (c:=#[.int .i64 1,.int .i64 0,.int .i64 0,.int .i64 0,.int .i64 2,.int .i64 0,.int .i64 9,.int .i64 0]) (t:=103) (fun v=>by clear h1 h2;go_simp) (fun w3 h3 G3 s3=>?_)
  walk_nrm
  refine laW ?_
  refine l_new O hh (by simp) G3.ok rfl (by rfl) (by kernel_rfl) (fun k=>.slice (some ⟨k,0,none⟩) 2 2) (c:=#[.slice (some ⟨w1.heap.size,0,none⟩) 2 2,.slice (some ⟨w2.heap.size,0,none⟩) 2 2]) (t:=104) (fun v=>by clear h1 h2 h3;go_simp) (fun w4 h4 G4 s4=>?_)
  walk_nrm
  refine laW ?_
  refine l_new O hh (by simp) G4.ok rfl (by rfl) (by kernel_rfl) (fun k=>.slice (some ⟨k,0,none⟩) 4 4) (c:=#[.int .i64 1,.int .i64 0,.int .i64 1,.int .i64 0]) (t:=3) (fun v=>by clear h1 h2 h3 h4;go_simp) (fun w5 h5 G5 s5=>?_)
  walk_nrm
  refine laW ?_
  have z1:=G1.size
  have z2:=G2.size
  have z3:=G3.size
  have z4:=G4.size
  have z5:=G5.size
  have nl:∀ k,w.heap.size≤k→k ∉ l:=fun k h1 h2=>by have:=ok.lt h2;omega
  have G05:Grow st (fun k=>k∈l) (fun _=>False) w w5:=(((G1.transN hst G2 (fun _ h=>h) (fun _ _ h=>h)).transN hst G3 (fun _ h=>h) (fun _ _ h=>h)).transN hst G4 (fun _ h=>h) (fun _ _ h=>h)).transN hst G5 (fun _ h=>h) (fun _ _ h=>h)
  have h1':w5.heap[w.heap.size]?=_:=(G5.low _ (by omega) (nl _ (by omega)) id).trans ((G4.low _ (by omega) (nl _ (by omega)) id).trans ((G3.low _ (by omega) (nl _ (by omega)) id).trans ((G2.low _ (by omega) (nl _ (by omega)) id).trans h1)))
  have h2':w5.heap[w1.heap.size]?=_:=(G5.low _ (by omega) (nl _ (by omega)) id).trans ((G4.low _ (by omega) (nl _ (by omega)) id).trans ((G3.low _ (by omega) (nl _ (by omega)) id).trans h2))
  have h3':w5.heap[w2.heap.size]?=_:=(G5.low _ (by omega) (nl _ (by omega)) id).trans ((G4.low _ (by omega) (nl _ (by omega)) id).trans h3)
  have h4':w5.heap[w3.heap.size]?=_:=(G5.low _ (by omega) (nl _ (by omega)) id).trans h4
  have hsc:ScriptsIn w5 (some ⟨w3.heap.size,0,none⟩) (fun j=>if j=0 then some ⟨w1.heap.size,0,none⟩ else some ⟨w2.heap.size,0,none⟩) (fun _=>2) [awA0,awA1]:=by
    refine ⟨fun j hj=>⟨_,_,rfl,?_⟩,fun j hj=>?_⟩
    · match j,hj with
      | 0,_=>exact cell_of_heap h4' rfl
      | 1,_=>exact cell_of_heap h4' rfl
    · match j,hj with
      | 0,_=>exact fun i hi'=>match i,hi' with
        | 0,_=>⟨_,_,rfl,cell_of_heap h2' rfl,cell_of_heap h2' rfl,cell_of_heap h2' rfl,cell_of_heap h2' rfl⟩
        | 1,_=>⟨_,_,rfl,cell_of_heap h2' rfl,cell_of_heap h2' rfl,cell_of_heap h2' rfl,cell_of_heap h2' rfl⟩
      | 1,_=>exact fun i hi'=>match i,hi' with
        | 0,_=>⟨_,_,rfl,cell_of_heap h3' rfl,cell_of_heap h3' rfl,cell_of_heap h3' rfl,cell_of_heap h3' rfl⟩
        | 1,_=>⟨_,_,rfl,cell_of_heap h3' rfl,cell_of_heap h3' rfl,cell_of_heap h3' rfl,cell_of_heap h3' rfl⟩
  have hsF:ScrFree (fun k=>k∈l) (some ⟨w3.heap.size,0,none⟩) (fun j=>if j=0 then some ⟨w1.heap.size,0,none⟩ else some ⟨w2.heap.size,0,none⟩) [awA0,awA1]:=by
    refine ⟨fun b off e _=>by cases e;exact nl _ (by omega),fun j hj b off e _=>?_⟩
    dsimp only at e
    by_cases c:j=0
    · rw [if_pos c] at e;cases e;exact nl _ (by omega)
    · rw [if_neg c] at e;cases e;exact nl _ (by omega)
  have hpk:NumsAt (fun b=>b ∉ l∧¬ ScrBlk (some ⟨w3.heap.size,0,none⟩) (fun j=>if j=0 then some ⟨w1.heap.size,0,none⟩ else some ⟨w2.heap.size,0,none⟩) [awA0,awA1] b) (some ⟨w4.heap.size,0,none⟩) [1,0,1,0] w5:=fun j p hp=>by
    refine ⟨_,rfl,rfl,⟨nl _ (by show w.heap.size≤w4.heap.size;omega),fun hb=>?_⟩,?_⟩
    · rcases hb with ⟨off,e⟩ | ⟨i,hi',_,off,e⟩
      · injection e with e;injection e with e;dsimp only at e;omega
      · dsimp only at e
        by_cases c:i=0
        · rw [if_pos c] at e;injection e with e;injection e with e;omega
        · rw [if_neg c] at e;injection e with e;injection e with e;omega
    · match j,hp with
      | 0,hp=>cases hp;exact cell_of_heap h5 rfl
      | 1,hp=>cases hp;exact cell_of_heap h5 rfl
      | 2,hp=>cases hp;exact cell_of_heap h5 rfl
      | 3,hp=>cases hp;exact cell_of_heap h5 rfl
  (refine l_enter T (fn:=Try.f14) (c:=.skip) (g:=14) (xs:=#[.slice (some ⟨w.heap.size,0,none⟩) 1 1,.slice (some ⟨w3.heap.size,0,none⟩) 2 2,.slice (some ⟨w4.heap.size,0,none⟩) 4 4]) (by simp) rfl (by rfl) (fun w=>?_) (fun w=>?_) ?_;(focus go_simp);(focus (simp [go_sem,events_into Try.func14 (by kernel_rfl) (by kernel_rfl)])))
  refine play_calls (Post:=Post) (cells:=[0]) (ss:=[awA0,awA1]) (ps:=[1,0,1,0]) hst G5.ok (old.imp id fun h=>zero_grow h G05 hst) pos (by decide) (by decide) (by decide) (by decide) (by decide) (by decide) (fun j hj=>?_) (fun b off e _=>by cases e;exact nl _ (by omega)) hsc hsF hpk _ _ trivial (by simp [bk,Frame.at]) rfl (fun v s' w6 hP=>?_) (fun ch s' w' hP=>by obtain ⟨_,_,_,_,_,_,h,_⟩:=hP;cases h)
  · match j,hj with
    | 0,_=>exact ⟨_,_,rfl,cell_of_heap h1' rfl⟩
  obtain ⟨gb,stv,ev,pv,anv,fv,hv,rfl,D⟩:=hP
  cases hv
  rw [bk_finish rfl]
  walk_nrm
  refine laW ?_
  have hst2:(c0 gb 1).spot=none→(c0 gb 1).block∈gb :: l:=fun _=>List.mem_cons_self ..
  have hh2:=hidesI (l:=gb :: l) (st:=c0 gb 1) (n:=n0 + 2) hst2
  refine l_new O hh2 (by simp) D.hid rfl (by rfl) (by kernel_rfl) (fun n=>.pointer (some (c0 n 0))) (c:=zeroPlayed) (t:=38) (fun v=>by clear h1 h2 h3 h4 h5 h1' h2' h3' h4';go_simp) (fun w7 h7 G7 s7=>?_)
  walk_nrm
  have nl6:∀ k,w6.heap.size≤k→k ∉ gb :: l:=fun k h1 h2=>by have:=D.hid.lt h2;omega
  have hone:(#[stv,ev,pv,anv,fv]:Array Value).all (·.oneCell')=true:=by
    obtain ⟨_,_,e,_⟩:=D.an
    have e0:∀ a b c,(Value.slice a b c).oneCell'=true:=(fun _ _ _=>rfl)
    subst e
    simp [ownsRow_one D.st,ownsRow_one D.en,ownsRow_one D.pa,ownsRow_one D.fi,e0]
  refine l_storeRow O hh2 (cells:=#[stv,ev,pv,anv,fv]) (by simp) G7.ok rfl (by rfl) rfl (by simp [Act.eval]) (by simp [Act.eval]) h7 (nl6 _ (by omega)) (by kernel_rfl) rfl hone (fun w8 h8 G8 s8=>?_)
  walk_nrm
  ((co_applyP (l_val T (by simp) rfl (by rfl) (fun w=>run_eq_of ?_) (fun w=>?_) ?_);rotate_left;(focus (intro K hK;go_simp;exact hK));(focus (solve | simp [go_sem])));walk_nrm)
  (refine l_end T ?_)
  have Dfi:=D.fi
  rw [aw_cells] at Dfi
  have Dst:=D.st
  rw [aw_steps] at Dst
  have low68:∀ k,k < w6.heap.size→k ∉ gb :: l→w8.heap[k]?=w6.heap[k]?:=fun k h1 h2=>(G8.low k (by omega) h2 (by omega)).trans (G7.low k h1 h2 id)
  have fi8:w8.ownsRow 0 3 1 fv 1 (([10]:List Int).map (Value.int .i64)):=ownsRow_of (fun g hg=>low68 g (ownsRow_lt Dfi g hg) (D.fresh g (.inr (.inr (.inr hg)))).2) Dfi
  have st8:w8.ownsRow 0 stepT 3 stv 4 (stepsV [⟨1,1,false⟩,⟨0,3,false⟩,⟨1,2,true⟩,⟨0,3,true⟩]):=ownsRow_of (fun g hg=>low68 g (ownsRow_lt Dst g hg) (D.fresh g (.inl hg)).2) Dst
  obtain ⟨fa,fcap,rfl,_,hfi,hfo⟩:=ownsRow_ints fi8
  obtain ⟨_,⟨_,h0⟩ | ⟨sg,scp,scur,rfl,_,k1,k2,k3,k4,k5⟩⟩:=st8
  · omega
  have key:=awake_b (Post:=Post) (c:=c) (cf:=cf) (n0:=n0 + 2) hst2 G8.ok h8 (nl6 _ (Nat.le_refl _)) hfi (fun g off e h=>(D.fresh g (.inr (.inr (.inr (hfo g off e h))))).2) k1 k4 k2 k5 (D.fresh sg (.inl rfl)).2 (fun w' G=>H gb w' ⟨G.ok,by have:=D.hgb;omega,zero_grow (zero_grow (zero_grow D.cnt G7 hst2) G8 hst2) G hst2,fun k hk hkl=>?_,by have:=G.size;have:=D.size;omega⟩)
  · simp only [awB2,seqR,Option.getD_some,Try.f11] at key
    exact key _ _ _ _ _ _ _ _ _ _ _ _ _ _ _ _ _ _ _ _ _ _ _ _ _ _ _ _ _ _ _ _ _ _ _ _ _ _
  · have hkg:k ∉ gb :: l:=fun h=>by
      rcases List.mem_cons.1 h with h | h
      · have:=D.hgb;omega
      · exact hkl h
    have hs6:=D.size
    exact (G.low k (by omega) hkg id).trans ((low68 k (by omega) hkg).trans ((D.low k (by omega) hkl).trans (G05.low k hk hkl id)))
theorem awake_calls {l:List Nat} {st:Addr} {n0:Nat} {w:World} (hst:st.spot=none→st.block∈l) (ok:HidOk (fun k=>k∈l) w) (old:st.spot≠none∨w.cell? st=some (.int .u64 0)) (pos:0 < n0) :
    CallsL Try.prog (LM Try.prog Post) (fun _=>True) 11 #[] (sitI l st n0) w (fun r s' w'=>∃ gb,r=.inl (.bool true)∧s'=sitI (gb :: l) (c0 gb 1) (n0 + 2)∧Awoke l gb w w'):=by
  intro c cs _ hkd hcm h1 _
  exact awake_a hst ok old pos fun gb w' A=>h1 _ _ _ ⟨gb,rfl,rfl,A⟩
end
end Go.Proofs.Ytndppafplgilbaa
namespace Go.Proofs.Ytndppafplgilbaa
open Go Go.Conc Go.RowKit
def LawPost (W:World) (v:Value) (w':World):Prop:=v=.bool true∧Below W.heap.size W { w' with tape:=W.tape }
theorem lawOO (W:World):OO (LawPost W) W:=⟨.bool true,W,⟨rfl,Below.refl _ _⟩,rfl,rfl⟩
theorem lawPost_oo {W w:World} (h:OO (LawPost W) w):w.os=W.os∧w.output=W.output:=by
  obtain ⟨v,w₁,⟨_,hb⟩,h1,h2⟩:=h
  exact ⟨h1.symm.trans hb.os,h2.symm.trans hb.output⟩
theorem RW.low {st:Addr} {w w₁:World} (r:RW st w w₁) {k:Nat} (hk:k≠st.block):w₁.heap[k]?=w.heap[k]?:=by
  rcases r with ⟨d,rfl⟩ | ⟨n,n₁,d,_,_,rfl⟩
  · rfl
  · exact setCell_ne w st _ hk
theorem law_fin {P:Program} {W w:World} {f:FuncId} {fn:Func} {tmps:Array Value} {todo:List Item} {l:List Nat} {gb n:Nat} (hi:P.inits.idxOf? f=none) (hf:P.funcs[f]?=some fn) (hr:ResultsC P fn tmps (.bool true)) (hgb:W.heap.size≤gb) (hsz:W.heap.size≤w.heap.size) (hlow:∀ k,k < W.heap.size→w.heap[k]?=W.heap[k]?) :
    LM P (LawPost W) (sitI l (c0 gb 1) n) (G { (bk f .normal).at ⟨tmps,[]⟩ todo with mode:=.returning } []) w:=by
  refine LM.over (v:=.bool true) hi hf (fun w=>(hr w).1) (fun w=>(hr w).2) fun w₁ r ho=>⟨rfl,?_⟩
  obtain ⟨h1,h2⟩:=lawPost_oo ho
  refine ⟨h1,rfl,h2,?_,fun k hk=>?_⟩
  · show W.heap.size≤w₁.heap.size
    rw [r.size];exact hsz
  · refine (r.low ?_).trans (hlow k hk)
    show k≠gb
    omega
theorem law_start {f:FuncId} {args:Array Value} {W:World} (H:LM Try.prog (LawPost W) (sitI [] ⟨0,0,some 0⟩ 1) (G (Frame.enter Try.prog f args .normal) []) W):Wins Try.prog (LawPost W) (solo (G (Frame.enter Try.prog f args .normal) []) W) #[] :=
  lm_start (by simp) (lawOO W) H
end Go.Proofs.Ytndppafplgilbaa
namespace Go.Proofs.Ytndppafplgilbaa
open Go Go.Conc Go.RowKit
theorem Masked.stepsIn {v w:World} {H:Nat→Prop} (M:Masked H 0 v w) {a:Option Addr} {l:List Stp} (h:StepsIn w a l) (hH:∀ b off,a=some ⟨b,off,none⟩→l≠[]→¬ H b):StepsIn v a l:=fun j hj=>by
  obtain ⟨b,off,e,h1,h2,h3⟩:=h j hj
  have hb:¬ H b:=hH b off e (by intro e;subst e;simp at hj)
  exact ⟨b,off,e,M.cellIn hb h1,M.cellIn hb h2,M.cellIn hb h3⟩
theorem StepsIn.at' {w w':World} {a:Option Addr} {l:List Stp} (h:StepsIn w a l) (hb:∀ b off,a=some ⟨b,off,none⟩→l≠[]→w'.heap[b]?=w.heap[b]?):StepsIn w' a l:=fun j hj=>by
  obtain ⟨b,off,e,h1,h2,h3⟩:=h j hj
  have hl:=hb b off e (by intro e;subst e;simp at hj)
  exact ⟨b,off,e,by rw [cell_of_block hl];exact h1,by rw [cell_of_block hl];exact h2,by rw [cell_of_block hl];exact h3⟩
theorem StepsIn.lt {w:World} {a:Option Addr} {l:List Stp} (h:StepsIn w a l) (hl:l≠[]) {b off:Nat} (e:a=some ⟨b,off,none⟩):b < w.heap.size:=by
  obtain ⟨b',off',e',h1,_⟩:=h 0 (by cases l with | nil=>exact absurd rfl hl | cons _ _=>simp)
  rw [e] at e'
  cases e'
  exact World.block_lt_of_cell? w ⟨b,off + 0 * 3,none⟩ h1
theorem StepsIn.low {w w':World} {a:Option Addr} {l:List Stp} (h:StepsIn w a l) (hb:∀ k,k < w.heap.size→w'.heap[k]?=w.heap[k]?):StepsIn w' a l:=h.at' fun b off e hl=>hb b (h.lt hl e)
theorem stepsV_at {l:List Stp} {j i:Nat} (hj:j < l.length) (hi:i < 3):(stepsV l)[j * 3 + i]?=(l[j].cells)[i]?:=by
  induction l generalizing j with
  | nil=>simp at hj
  | cons s l ih =>
    have hs:stepsV (s :: l)=s.cells ++ stepsV l:=rfl
    have h3:s.cells.length=3:=rfl
    cases j with
    | zero =>
      rw [hs,List.getElem?_append_left (by omega)]
      simp
    | succ j =>
      rw [hs,List.getElem?_append_right (by omega)]
      have:=ih (j:=j) (by simpa using hj)
      rw [h3,show (j + 1) * 3 + i - 3=j * 3 + i by omega,this]
      simp
theorem ownsRow_steps {w:World} {base n:Nat} {v:Value} {l:List Stp} (h:w.ownsRow base stepT 3 v n (stepsV l)):∃ a cap,v=.slice a n cap∧n=l.length∧StepsIn w a l∧(∀ g off,a=some ⟨g,off,none⟩→l≠[]→v.ownBlock=some g):=by
  obtain ⟨h0,h⟩:=h
  have hn:n=l.length:=by rw [stepsV_len] at h0;omega
  rcases h with ⟨rfl,rfl⟩ | ⟨g,cap,cur,rfl,_,h2,h3,h4,h5,h6⟩
  · have:l=[]:=List.eq_nil_of_length_eq_zero hn.symm
    subst this
    exact ⟨none,0,rfl,rfl,fun j hj=>by simp at hj,fun g off e=>by cases e⟩
  · refine ⟨some ⟨g,0,none⟩,cap,rfl,hn,fun j hj=>⟨g,0,rfl,?_⟩,fun g' off e _=>by cases e;rfl⟩
    have key:∀ i,i < 3→∀ u,(l[j].cells)[i]?=some u→w.cell? ⟨g,j * 3 + i,none⟩=some u:=fun i hi u hu=>by
      refine cell_of_heap h2 ?_
      have e:(cur.toList.take (n * 3))[j * 3 + i]?=(stepsV l)[j * 3 + i]?:=by rw [h6]
      rw [List.getElem?_take,if_pos (by omega),stepsV_at hj hi,hu] at e
      rw [← Array.getElem?_toList,e]
    simp only [Nat.zero_add]
    exact ⟨key 0 (by omega) _ rfl,key 1 (by omega) _ rfl,key 2 (by omega) _ rfl⟩
theorem ownsRow_bools {w:World} {base n:Nat} {v:Value} {l:List Bool} (h:w.ownsRow base boolT 1 v n (l.map Value.bool)):∃ a cap,v=.slice a n cap∧n=l.length∧BoolsIn w a l∧(∀ g off,a=some ⟨g,off,none⟩→l≠[]→v.ownBlock=some g):=by
  obtain ⟨h0,h⟩:=h
  have hn:n=l.length:=by simpa using h0.symm
  rcases h with ⟨rfl,rfl⟩ | ⟨g,cap,cur,rfl,_,h2,h3,h4,h5,h6⟩
  · have:l=[]:=List.eq_nil_of_length_eq_zero hn.symm
    subst this
    exact ⟨none,0,rfl,rfl,fun j hj=>by simp at hj,fun g off e=>by cases e⟩
  · refine ⟨some ⟨g,0,none⟩,cap,rfl,hn,fun j hj=>⟨g,0,rfl,?_⟩,fun g' off e _=>by cases e;rfl⟩
    refine cell_of_heap h2 ?_
    have e:(cur.toList.take (n * 1))[j]?=(l.map Value.bool)[j]?:=by rw [h6]
    rw [List.getElem?_take,if_pos (by omega)] at e
    rw [Nat.zero_add,← Array.getElem?_toList,e]
    simp [hj]
end Go.Proofs.Ytndppafplgilbaa
namespace Go.Proofs.Ytndppafplgilbaa
open Go Go.Conc Go.RowKit
open Go.ConcN (sumTo upd sumTo_upd upd_ne upd_same)
structure LawAt (W:World) (l:List Nat) (gb:Nat) (w:World):Prop where
  hid:HidOk (fun k=>k∈l) w
  mem:gb∈l
  far:∀ x,x∈l→W.heap.size≤x
  cnt:w.cell? (c0 gb 1)=some (.int .u64 0)
  low:∀ k,k < W.heap.size→w.heap[k]?=W.heap[k]?
  size:W.heap.size≤w.heap.size
section
variable {W w w':World} {l:List Nat} {gb:Nat}
theorem LawAt.hst (A:LawAt W l gb w):(c0 gb 1).spot=none→(c0 gb 1).block∈l:=fun _=>A.mem
theorem LawAt.grow (A:LawAt W l gb w) {row:Nat→Prop} (G:Grow (c0 gb 1) (fun k=>k∈l) row w w') (hr:∀ k,row k→W.heap.size≤k):LawAt W l gb w' :=
  ⟨G.ok,A.mem,A.far,zero_grow A.cnt G A.hst,fun k hk=>(G.low k (by have:=A.size;omega) (fun h=>by have:=A.far k h;omega) (fun h=>by have:=hr k h;omega)).trans (A.low k hk),Nat.le_trans A.size G.size⟩
theorem LawAt.play (A:LawAt W l gb w) {gb':Nat} {cells:List Int} {n:Nat} {q:PQ} {steps:List Stp} {stv ev pv anv fv:Value} (D:PlayDone l gb' cells n q steps stv ev pv anv fv w w'):LawAt W (gb' :: l) gb' w' :=
  ⟨D.hid,List.mem_cons_self ..,fun x hx=>by
    rcases List.mem_cons.1 hx with h | h
    · have:=D.hgb;have:=A.size;omega
    · exact A.far x h,D.cnt,fun k hk=>(D.low k (by have:=A.size;omega) (fun h=>by have:=A.far k h;omega)).trans (A.low k hk),Nat.le_trans A.size D.size⟩
theorem LawAt.far' (A:LawAt W l gb w) {k:Nat} (h:w.heap.size≤k):k ∉ l:=fun hk=>by have:=A.hid.lt hk;omega
theorem LawAt.free (A:LawAt W l gb w) {k:Nat} (h:k < W.heap.size):k ∉ l:=fun hk=>by have:=A.far k hk;omega
theorem law_last {f:FuncId} {fn:Func} {n:Nat} {c:Code} {tmps:Array Value} {k:List Item} (hi:Try.prog.inits.idxOf? f=none) (hf:Try.prog.funcs[f]?=some fn) (hc:okCode Try.prog dynB f c=true) (hsl:Slots dynB f tmps) (A:LawAt W l gb w)
    (hp:∀ v,Masked (fun k=>k∈l) 0 v w→c.wp Try.prog (fun e a u=>e=.ret∧a.defers=[]∧ResultsC Try.prog fn a.tmps (.bool true)∧Below W.heap.size v u) ⟨tmps,[]⟩ v) :
    LM Try.prog (LawPost W) (sitI l (c0 gb 1) n) (G ((bk f .normal).at ⟨tmps,[]⟩ (.code c :: k)) []) w:=by
  have O:=ownM Try.prog (LawPost W)
  have hh:=hidesI (l:=l) (st:=c0 gb 1) (n:=n) A.hst
  have key:=wpL_piece O (Sk:=fun _=>True) closedB hh ⟨fn,hf⟩ hc hsl A.hid (R:=fun v e a u=>e=.ret∧ResultsC Try.prog fn a.tmps (.bool true)∧Below W.heap.size v u) (Q:=fun e s a w'=>e=.ret∧∀ todo,LM Try.prog (LawPost W) s (G { (bk f .normal).at a todo with mode:=.returning } []) w')
    (fun v M=>Code.wp_mono (fun e a u hq=>⟨.inr hq.1,hq.2.1,hq.1,hq.2.2⟩) (hp v M)) (fun v e ts v' w' M hR he Al=>⟨hR.1,fun todo=>?_⟩)
  · exact key k [] trivial fun e s' a' w' ⟨he,h⟩=>by subst he;exact h
  · have G1:Grow (c0 gb 1) (fun k=>k∈l) (fun k=>W.heap.size≤k) w w':=Al.grow M fun k hk hr=>hR.2.2.block k (by omega)
    have A1:=A.grow G1 fun k h=>h
    exact law_fin hi hf hR.2.1 (A.far _ A.mem) A1.size fun k hk=>A1.low k hk
theorem law_retL {f:FuncId} {fn:Func} {n:Nat} {tmps:Array Value} {k:List Item} (hi:Try.prog.inits.idxOf? f=none) (hf:Try.prog.funcs[f]?=some fn) (hr:ResultsC Try.prog fn tmps (.bool true)) (A:LawAt W l gb w) :
    LM Try.prog (LawPost W) (sitI l (c0 gb 1) n) (G ((bk f .normal).at ⟨tmps,[]⟩ (.code .ret :: k)) []) w :=
  l_ret (ownM Try.prog (LawPost W)).toCtl (law_fin hi hf hr (A.far _ A.mem) A.size A.low)
end
structure PRow (B:Nat) (l:List Nat) (m n:Nat) (q:PQ) (steps:List Stp) (stv ev pv anv fv:Value) (w:World):Prop where
  st:w.ownsRow 0 stepT 3 stv steps.length (stepsV steps)
  en:w.ownsRow 0 boolT 1 ev n ((List.range n).map fun i=>.bool (q.left i).isEmpty)
  pa:w.ownsRow 0 boolT 1 pv n ((List.range n).map fun _=>.bool false)
  an:∃ (ansB:Nat) (av:Nat→Value),anv=.slice (some ⟨ansB,0,none⟩) n n∧(B≤ansB∧ansB ∉ l)∧w.heap[ansB]?=some (.cells (avArr n av) 22 (0,0)) ∧
    ∀ i,i < n→w.ownsRow 0 3 1 (av i) (q.ans i).length ((q.ans i).map (Value.int .i64))∧∀ g,(av i).ownBlock=some g→B≤g∧g ∉ l
  fi:w.ownsRow 0 3 1 fv m (q.cs.map (Value.int .i64))
  fresh:∀ g,stv.ownBlock=some g∨ev.ownBlock=some g∨pv.ownBlock=some g∨fv.ownBlock=some g→B≤g∧g ∉ l
section
variable {w w' v:World} {l:List Nat} {B m n:Nat} {q:PQ} {steps:List Stp} {stv ev pv anv fv:Value}
theorem PlayDone.rows {gb:Nat} {cells:List Int} (D:PlayDone l gb cells n q steps stv ev pv anv fv w w'):PRow w.heap.size (gb :: l) cells.length n q steps stv ev pv anv fv w':=⟨D.st,D.en,D.pa,D.an,D.fi,D.fresh⟩
theorem PRow.keep (h:PRow B l m n q steps stv ev pv anv fv w) {l':List Nat} (hl:∀ x,x∈l'→x ∉ l→w.heap.size≤x) (hk:∀ g,B≤g→g < w.heap.size→g ∉ l→w'.heap[g]?=w.heap[g]?):PRow B l' m n q steps stv ev pv anv fv w':=by
  obtain ⟨ansB,av,e,h1,h2,h3⟩:=h.an
  have kb:∀ g,B≤g∧g ∉ l→g < w.heap.size→w'.heap[g]?=w.heap[g]?:=fun g hg hlt=>hk g hg.1 hlt hg.2
  have nl:∀ g,g ∉ l→g < w.heap.size→g ∉ l':=fun g hg hlt hm=>by have:=hl g hm hg;omega
  have hlt:=(Array.getElem?_eq_some_iff.1 h2).1
  refine ⟨ownsRow_of (fun g hg=>kb g (h.fresh g (.inl hg)) (ownsRow_lt h.st g hg)) h.st,ownsRow_of (fun g hg=>kb g (h.fresh g (.inr (.inl hg))) (ownsRow_lt h.en g hg)) h.en,ownsRow_of (fun g hg=>kb g (h.fresh g (.inr (.inr (.inl hg)))) (ownsRow_lt h.pa g hg)) h.pa,
    ⟨ansB,av,e,⟨h1.1,nl _ h1.2 hlt⟩,(kb _ h1 hlt).trans h2,fun i hi=>⟨ownsRow_of (fun g hg=>kb g ((h3 i hi).2 g hg) (ownsRow_lt (h3 i hi).1 g hg)) (h3 i hi).1,fun g hg=>⟨((h3 i hi).2 g hg).1,nl g ((h3 i hi).2 g hg).2 (ownsRow_lt (h3 i hi).1 g hg)⟩⟩⟩,
    ownsRow_of (fun g hg=>kb g (h.fresh g (.inr (.inr (.inr hg)))) (ownsRow_lt h.fi g hg)) h.fi,fun g hg=>⟨(h.fresh g hg).1,nl g (h.fresh g hg).2 ?_⟩⟩
  rcases hg with hg | hg | hg | hg
  · exact ownsRow_lt h.st g hg
  · exact ownsRow_lt h.en g hg
  · exact ownsRow_lt h.pa g hg
  · exact ownsRow_lt h.fi g hg
theorem PRow.masked (h:PRow B l m n q steps stv ev pv anv fv w) {H:Nat→Prop} (hH:∀ k,H k→k∈l) (M:Masked H 0 v w):PRow B l m n q steps stv ev pv anv fv v:=by
  obtain ⟨ansB,av,e,h1,h2,h3⟩:=h.an
  have nh:∀ k,k ∉ l→¬ H k:=fun k hk hh=>hk (hH k hh)
  exact ⟨M.owns (fun g hg=>nh g (h.fresh g (.inl hg)).2) h.st,M.owns (fun g hg=>nh g (h.fresh g (.inr (.inl hg))).2) h.en,M.owns (fun g hg=>nh g (h.fresh g (.inr (.inr (.inl hg)))).2) h.pa,
    ⟨ansB,av,e,h1,M.seen (nh _ h1.2) h2,fun i hi=>⟨M.owns (fun g hg=>nh g ((h3 i hi).2 g hg).2) (h3 i hi).1,(h3 i hi).2⟩⟩,M.owns (fun g hg=>nh g (h.fresh g (.inr (.inr (.inr hg)))).2) h.fi,h.fresh⟩
theorem PRow.more (h:PRow B l m n q steps stv ev pv anv fv w) {B':Nat} {l':List Nat} (hB:B'≤B) (hl:∀ x,x∈l'→x∈l∨x < B):PRow B' l' m n q steps stv ev pv anv fv w:=by
  obtain ⟨ansB,av,e,h1,h2,h3⟩:=h.an
  have nn:∀ g,B≤g∧g ∉ l→B'≤g∧g ∉ l':=fun g hg=>⟨by omega,fun hm=>by
    rcases hl g hm with h | h
    · exact hg.2 h
    · omega⟩
  exact ⟨h.st,h.en,h.pa,⟨ansB,av,e,nn _ h1,h2,fun i hi=>⟨(h3 i hi).1,fun g hg=>nn g ((h3 i hi).2 g hg)⟩⟩,h.fi,fun g hg=>nn g (h.fresh g hg)⟩
theorem PRow.ins (h:PRow B l m n q steps stv ev pv anv fv w):∃ sa sc ea ec pa pc ansB fa fc,stv=.slice sa steps.length sc∧ev=.slice ea n ec∧pv=.slice pa n pc∧anv=.slice (some ⟨ansB,0,none⟩) n n∧fv=.slice fa m fc∧m=q.cs.length ∧
    StepsIn w sa steps∧BoolsIn w ea ((List.range n).map fun i=>(q.left i).isEmpty)∧BoolsIn w pa ((List.range n).map fun _=>false)∧RowsIn w (some ⟨ansB,0,none⟩) ((List.range n).map q.ans)∧IntsIn w fa q.cs:=by
  obtain ⟨ansB,av,e,h1,h2,h3⟩:=h.an
  have en:=h.en
  have pa:=h.pa
  rw [show ((List.range n).map fun i=>Value.bool (q.left i).isEmpty)=((List.range n).map fun i=>(q.left i).isEmpty).map Value.bool by simp] at en
  rw [show ((List.range n).map fun _=>Value.bool false)=((List.range n).map fun _=>false).map Value.bool by simp] at pa
  obtain ⟨sa,sc,e1,_,i1,_⟩:=ownsRow_steps h.st
  obtain ⟨ea,ec,e2,_,i2,_⟩:=ownsRow_bools en
  obtain ⟨pa',pc,e3,_,i3,_⟩:=ownsRow_bools pa
  obtain ⟨fa,fc,e4,em,i4,_⟩:=ownsRow_ints h.fi
  refine ⟨sa,sc,ea,ec,pa',pc,ansB,fa,fc,e1,e2,e3,e,e4,em,i1,i2,i3,fun j hj=>?_,i4⟩
  have hj':j < n:=by simpa using hj
  obtain ⟨oi,_⟩:=h3 j hj'
  obtain ⟨aa,ac,ea',_,i5,_⟩:=ownsRow_ints oi
  refine ⟨ansB,0,aa,ac,rfl,?_,by simpa using i5⟩
  rw [Nat.zero_add,cell_of_heap h2 (avArr_at hj'),ea']
  simp
end
section
variable {Gh:Type} {sit:Gh→Sit} {h:Nat} {L:Gh→Goroutine→World→Prop} (O:OwnL Try.prog sit h L) {H:Nat→Prop} {s:Gh} {w:World} {Sk:List Frame→Prop}
include O
theorem cut_calls (hh:Hides (sit s) h H) (ok:HidOk H w) {a:Option Addr} {cap:Nat} {l:List Int} (ha:IntsIn w a l) (haH:∀ g off,a=some ⟨g,off,none⟩→l≠[]→¬ H g) (hc:l.length≤cap) :
    CallsL Try.prog L Sk 12 #[.slice a l.length cap] s w (fun r s' w'=>r=.inl (.slice a (cutL l).length cap)∧s'=s∧Grow (sit s).st H (fun _=>False) w w') :=
  callsL_alone O closedB hh (by kernel_rfl) Try.func12 rfl (slots_nil rfl _) ok (R:=fun v0 x v'=>x=.slice a (cutL l).length cap∧v0=v') (fun v0 M=>by
    refine (cut_any a cap l v0 (M.ints ha haH) hc).mono ?_
    rintro e w' ⟨rfl,rfl⟩
    exact ⟨rfl,rfl⟩) fun v0 x v' w' M hR A=>by
    obtain ⟨rfl,rfl⟩:=hR
    exact ⟨rfl,rfl,A.grow M fun k h _=>rfl⟩
theorem to4_calls (hh:Hides (sit s) h H) (ok:HidOk H w) {so:Option Addr} {scap:Nat} {ao:Nat→Option Addr} {acap:Nat→Nat} {ss:List (List A4)} (hn:ss.length * 24≤140737488351232) (hl:∀ s∈ss,s.length * 32≤140737488351232) (hs:ScriptsIn w so ao acap ss) (hF:ScrFree H so ao ss) :
    CallsL Try.prog L Sk 15 #[.slice so ss.length scap] s w (fun r s' w'=>∃ so' scap' f c,r=.inl (.slice so' ss.length scap')∧s'=s∧Grow (sit s).st H (fun _=>False) w w'∧ScriptsIn w' so' f c ss∧∀ x,ScrBlk so' f ss x→w.heap.size≤x∧x < w'.heap.size) :=
  callsL_alone O closedB hh (by kernel_rfl) Try.func15 rfl (slots_nil rfl _) ok (R:=fun v0 x v'=>∃ so' scap' f c,x=.slice so' ss.length scap'∧ScriptsIn v' so' f c ss∧Below v0.heap.size v0 v'∧∀ x,ScrBlk so' f ss x→v0.heap.size≤x∧x < v'.heap.size) (fun v0 M=>by
    refine (to4_any so scap ao acap ss v0 hn hl (M.scripts hs hF)).mono ?_
    rintro e w' ⟨so',scap',f,c,rfl,h1,h2,h3⟩
    exact ⟨so',scap',f,c,rfl,h1,h2,h3⟩) fun v0 x v' w' M hR A=>by
    obtain ⟨so',scap',f,c,rfl,h1,h2,h3⟩:=hR
    have hv:v0.heap.size=w.heap.size:=M.size
    have hv':v'.heap.size=w'.heap.size:=A.masked.size
    refine ⟨so',scap',f,c,rfl,rfl,A.grow M fun k h _=>h2.block k h,⟨fun j hj=>?_,fun j hj=>fun i hi=>?_⟩,fun x hx=>by have:=h3 x hx;omega⟩
    · obtain ⟨b,off,e,hc⟩:=h1.at_ j hj
      exact ⟨b,off,e,(A.masked.cell hc).1⟩
    · obtain ⟨b,off,e,c1,c2,c3,c4⟩:=h1.acts j hj i hi
      exact ⟨b,off,e,(A.masked.cell c1).1,(A.masked.cell c2).1,(A.masked.cell c3).1,(A.masked.cell c4).1⟩
theorem thin_calls (hh:Hides (sit s) h H) (ok:HidOk H w) {a:Option Addr} {cap:Nat} {l:List Stp} (hn:l.length * 8≤140737488351232) (ha:StepsIn w a l) (haH:∀ g off,a=some ⟨g,off,none⟩→l≠[]→¬ H g) :
    CallsL Try.prog L Sk 19 #[.slice a l.length cap] s w (fun r s' w'=>∃ v,r=.inl v∧s'=s∧Grow (sit s).st H (fun _=>False) w w'∧w'.ownsRow w.heap.size 3 1 v (thin l).length ((thin l).map (Value.int .i64))) :=
  callsL_alone O closedB hh (by kernel_rfl) Try.func19 rfl (slots_nil rfl _) ok (R:=fun v0 x v'=>v'.ownsRow v0.heap.size 3 1 x (thin l).length ((thin l).map (Value.int .i64))∧Below v0.heap.size v0 v') (fun v0 M=>by
    refine (thin_any a cap l v0 hn (M.stepsIn ha haH)).mono ?_
    rintro e w' ⟨x,rfl,h1,h2⟩
    exact ⟨h1,h2⟩) fun v0 x v' w' M hR A=>by
    obtain ⟨h1,h2⟩:=hR
    exact ⟨x,rfl,rfl,A.grow M fun k h _=>h2.block k h,by rw [← M.size];exact A.masked.owned h1⟩
end
end Go.Proofs.Ytndppafplgilbaa
namespace Go.Proofs.Ytndppafplgilbaa
open Go Go.Conc Go.RowKit
open Go.ConcN (sumTo upd sumTo_upd upd_ne upd_same)
structure PlMid (W w:World) (l:List Nat) (gb m n:Nat) (q:PQ) (steps:List Stp) (c a s:Bool) (p gb3:Nat) (stv ev pv anv fv:Value) (w':World):Prop where
  base:W.heap.size≤w.heap.size
  at_:LawAt W (bif c then gb3 :: l else l) (bif c then gb3 else gb) w'
  kept:∀ k,k < w.heap.size→k ∉ l→w'.heap[k]?=w.heap[k]?
  size:w.heap.size≤w'.heap.size
  hgb:c=true→w.heap.size≤gb3
  rows:c=true→PRow w.heap.size (bif a then p :: gb3 :: l else gb3 :: l) m n q steps stv ev pv anv fv w'
  box:a=true→w.heap.size≤p∧p < w'.heap.size∧p ∉ (bif c then gb3 :: l else l)∧w'.heap[p]?=some (.cells (bif s then #[stv,ev,pv,anv,fv] else zeroPlayed) 38 (0,0))
section
variable {W w w' w'':World} {l:List Nat} {gb m n:Nat} {q:PQ} {steps:List Stp} {c a s:Bool} {p gb3:Nat} {stv ev pv anv fv:Value}
theorem PlMid.init (A:LawAt W l gb w):PlMid W w l gb m n q steps false false false p gb3 stv ev pv anv fv w:=⟨A.size,A,fun _ _ _=>rfl,Nat.le_refl _,fun h=>(by cases h),fun h=>(by cases h),fun h=>(by cases h)⟩
theorem PlMid.free (h:PlMid W w l gb m n q steps c a s p gb3 stv ev pv anv fv w') {k:Nat} (hk:k < w.heap.size) (hn:k ∉ l):k ∉ (bif c then gb3 :: l else l):=by
  cases c with
  | false=>exact hn
  | true =>
    intro hm
    rcases List.mem_cons.1 hm with e | e
    · have:=h.hgb rfl;omega
    · exact hn e
theorem PlMid.more (h:PlMid W w l gb m n q steps c a s p gb3 stv ev pv anv fv w') (G:Grow (c0 (bif c then gb3 else gb) 1) (fun k=>k∈(bif c then gb3 :: l else l)) (fun _=>False) w' w''):PlMid W w l gb m n q steps c a s p gb3 stv ev pv anv fv w'':=by
  have hs:=h.size
  have hg:=G.size
  refine ⟨h.base,h.at_.grow G fun _ h=>h.elim,fun k hk hn=>(G.low k (by omega) (h.free hk hn) id).trans (h.kept k hk hn),by omega,h.hgb,fun hc=>?_,fun ha=>?_⟩
  · have:=h.rows hc
    subst hc
    refine this.keep (fun x hx hn=>absurd hx hn) fun g hB hlt hn=>G.low g hlt (fun hm=>hn ?_) id
    simp only [cond_true] at hm
    cases a with
    | false=>exact hm
    | true=>exact List.mem_cons_of_mem _ hm
  · obtain ⟨h1,h2,h3,h4⟩:=h.box ha
    exact ⟨h1,by omega,h3,(G.low p h2 h3 id).trans h4⟩
theorem PlMid.alloc (h:PlMid W w l gb m n q steps c false s p gb3 stv ev pv anv fv w') (G:Grow (c0 (bif c then gb3 else gb) 1) (fun k=>k∈(bif c then gb3 :: l else l)) (fun _=>False) w' w'')
    (hz:w''.heap[w'.heap.size]?=some (.cells zeroPlayed 38 (0,0))):PlMid W w l gb m n q steps c true false w'.heap.size gb3 stv ev pv anv fv w'':=by
  have h':=h.more G
  have hlt:=(Array.getElem?_eq_some_iff.1 hz).1
  have hf:=h.at_.far' (Nat.le_refl w'.heap.size)
  refine ⟨h.base,h'.at_,h'.kept,h'.size,h'.hgb,fun hc=>?_,fun _=>⟨h.size,hlt,hf,hz⟩⟩
  have hr:=h.rows hc
  subst hc
  simp only [cond_true,cond_false] at hr hf ⊢
  refine hr.keep (fun x hx hn=>?_) fun g hB hg hn=>G.low g hg (fun hm=>hn hm) id
  rcases List.mem_cons.1 hx with rfl | hx
  · exact Nat.le_refl _
  · exact absurd hx hn
theorem PlMid.call (h:PlMid W w l gb m n q steps false a false p gb3 stv ev pv anv fv w') {gb4:Nat} {cells:List Int} {stv' ev' pv' anv' fv':Value} (D:PlayDone l gb4 cells n q steps stv' ev' pv' anv' fv' w' w'') (hm:cells.length=m):PlMid W w l gb m n q steps true a false p gb4 stv' ev' pv' anv' fv' w'':=by
  subst hm
  have hs:=h.size
  have hd:=D.size
  have hg:=D.hgb
  have A:LawAt W l gb w':=h.at_
  refine ⟨h.base,A.play D,fun k hk hn=>(D.low k (by omega) hn).trans (h.kept k hk hn),by omega,fun _=>by omega,fun _=>?_,fun ha=>?_⟩
  · refine D.rows.more hs fun x hx=>?_
    cases ha:a with
    | false=>rw [ha] at hx;exact .inl hx
    | true =>
      rw [ha] at hx
      rcases List.mem_cons.1 hx with rfl | hx
      · exact .inr (h.box ha).2.1
      · exact .inl hx
  · obtain ⟨h1,h2,h3,h4⟩:=h.box ha
    simp only [cond_false] at h3
    refine ⟨h1,by omega,fun hm=>?_,(D.low p h2 h3).trans h4⟩
    rcases List.mem_cons.1 hm with e | e
    · omega
    · exact h3 e
theorem PlMid.store (h:PlMid W w l gb m n q steps true true s p gb3 stv ev pv anv fv w') (G:Grow (c0 gb3 1) (fun k=>k∈gb3 :: l) (fun k=>k=p) w' w'') (hz:w''.heap[p]?=some (.cells #[stv,ev,pv,anv,fv] 38 (0,0))) :
    PlMid W w l gb m n q steps true true true p gb3 stv ev pv anv fv w'':=by
  have hs:=h.size
  have hg:=G.size
  obtain ⟨h1,h2,h3,h4⟩:=h.box rfl
  have A:LawAt W (gb3 :: l) gb3 w':=h.at_
  have hb:=h.base
  refine ⟨hb,A.grow G fun k hk=>by subst hk;omega,fun k hk hn=>(G.low k (by omega) (h.free hk hn) (by omega)).trans (h.kept k hk hn),by omega,h.hgb,fun _=>?_,fun _=>⟨h1,by omega,h3,hz⟩⟩
  refine (h.rows rfl).keep (fun x hx hn=>absurd hx hn) fun g hB hlt hn=>G.low g hlt (fun hm=>hn (List.mem_cons_of_mem _ hm)) fun e=>hn (by rw [e];exact List.mem_cons_self ..)
end
end Go.Proofs.Ytndppafplgilbaa
namespace Go.Proofs.Ytndppafplgilbaa
open Go Go.Conc Go.RowKit
theorem PRow.ins2 {w:World} {l:List Nat} {B m n l1 l2 l3 l4 l5 sc ec pc ac fc:Nat} {q:PQ} {steps:List Stp} {sa ea pa aa fa:Option Addr} (h:PRow B l m n q steps (.slice sa l1 sc) (.slice ea l2 ec) (.slice pa l3 pc) (.slice aa l4 ac) (.slice fa l5 fc) w) :
    StepsIn w sa steps∧BoolsIn w ea ((List.range n).map fun i=>(q.left i).isEmpty)∧BoolsIn w pa ((List.range n).map fun _=>false)∧RowsIn w aa ((List.range n).map q.ans)∧IntsIn w fa q.cs∧m=q.cs.length:=by
  obtain ⟨sa',sc',ea',ec',pa',pc',ansB,fa',fc',e1,e2,e3,e4,e5,em,i1,i2,i3,i4,i5⟩:=h.ins
  cases e1;cases e2;cases e3;cases e4;cases e5
  exact ⟨i1,i2,i3,i4,i5,em⟩
theorem PRow.few {w:World} {l:List Nat} {B m n:Nat} {q:PQ} {steps:List Stp} {stv ev pv anv fv:Value} (h:PRow B l m n q steps stv ev pv anv fv w):∀ x∈(List.range n).map q.ans,x.length≤9223372036854775807:=fun x hx=>by
  obtain ⟨i,hi,rfl⟩:=List.mem_map.1 hx
  obtain ⟨_,_,_,_,_,h3⟩:=h.an
  rcases (h3 i (List.mem_range.1 hi)).1.2 with ⟨_,h0⟩ | ⟨g,cap,cur,_,_,_,h4,h5,_⟩
  · omega
  · unfold maxLen at h5;omega
theorem playErr_zero {cells:List Int} {ss:List (List A4)} {ps:List Int} (h:playErr cells ss ps=0):1≤ss.length∧ss.length≤64∧ps.length≤1000000∧cells.length≤64∧(∀ s∈ss,s.length≤1000)∧scriptsErr cells.length ss=0:=by
  unfold playErr at h
  split at h
  · rename_i h1;exact absurd h h1
  · rename_i h1
    have h1':askedErr ss.length ps.length=0:=by simpa using h1
    split at h
    · cases h
    · rename_i h2
      have ha:allFew (ss.map (·.length))=true:=by
        cases hb:allFew (ss.map (·.length)) with
        | true=>rfl
        | false=>exact absurd (.inr hb) h2
      unfold askedErr at h1'
      split at h1'
      · cases h1'
      · split at h1'
        · cases h1'
        · exact ⟨by omega,by omega,by omega,by omega,by simpa [allFew] using ha,h⟩
theorem playErr_same {cells:List Int} {ss:List (List A4)} {ps ps':List Int} (h:playErr cells ss ps=0) (hl:ps'.length≤ps.length):playErr cells ss ps'=0:=by
  obtain ⟨h1,h2,h3,h4,h5,h6⟩:=playErr_zero h
  have ha:allFew (ss.map (·.length))=true:=by simpa [allFew] using h5
  have h7:askedErr ss.length ps'.length=0:=by unfold askedErr;rw [if_neg (by omega),if_neg (by omega)]
  unfold playErr
  rw [if_neg (by simp [h7]),if_neg (by rw [ha];simp;omega)]
  exact h6
theorem numsAt_of {keep:Nat→Prop} {w:World} {a:Option Addr} {l:List Int} (h:IntsIn w a l) (hk:∀ b off,a=some ⟨b,off,none⟩→l≠[]→keep b):NumsAt keep a l w:=fun j p hp=>by
  obtain ⟨hj,rfl⟩:=List.getElem?_eq_some_iff.1 hp
  obtain ⟨b,off,e,h1⟩:=h j hj
  have hl:l≠[]:=by intro e;subst e;simp at hj
  exact ⟨⟨b,off,none⟩,e,rfl,hk b off e hl,by rw [Go.WideShapes.add_plain];exact h1⟩
theorem IntsIn.lt {w:World} {a:Option Addr} {l:List Int} (h:IntsIn w a l) (hl:l≠[]) {b off:Nat} (e:a=some ⟨b,off,none⟩):b < w.heap.size:=by
  obtain ⟨b',off',e',h1⟩:=h 0 (List.length_pos_iff.2 hl)
  rw [e] at e'
  cases e'
  exact World.block_lt_of_cell? w ⟨b,off + 0,none⟩ h1
theorem IntsIn.at' {w w':World} {a:Option Addr} {l:List Int} (h:IntsIn w a l) (hb:∀ b off,a=some ⟨b,off,none⟩→l≠[]→w'.heap[b]?=w.heap[b]?):IntsIn w' a l:=fun j hj=>by
  obtain ⟨b,off,e,h1⟩:=h j hj
  exact ⟨b,off,e,by rw [cell_of_block (hb b off e (by intro e;subst e;simp at hj))];exact h1⟩
theorem IntsIn.low {w w':World} {a:Option Addr} {l:List Int} (h:IntsIn w a l) (hb:∀ k,k < w.heap.size→w'.heap[k]?=w.heap[k]?):IntsIn w' a l:=h.at' fun b off e hl=>hb b (h.lt hl e)
theorem IntsIn.take {w:World} {a:Option Addr} {l:List Int} (h:IntsIn w a l) (k:Nat):IntsIn w a (l.take k):=fun j hj=>by
  have hj':j < l.length:=by simp at hj;omega
  obtain ⟨b,off,e,h1⟩:=h j hj'
  exact ⟨b,off,e,by rw [List.getElem_take];exact h1⟩
theorem ScrBlk.lt' {w:World} {so:Option Addr} {ao:Nat→Option Addr} {acap:Nat→Nat} {ss:List (List A4)} (hs:ScriptsIn w so ao acap ss):(∀ b off,so=some ⟨b,off,none⟩→ss≠[]→b < w.heap.size)∧∀ j (h:j < ss.length),∀ b off,ao j=some ⟨b,off,none⟩→ss[j]≠[]→b < w.heap.size:=by
  refine ⟨fun b off e hl=>?_,fun j hj b off e hl=>?_⟩
  · obtain ⟨b',off',e',h1⟩:=hs.at_ 0 (List.length_pos_iff.2 hl)
    rw [e] at e'
    cases e'
    exact World.block_lt_of_cell? w ⟨b,off + 0,none⟩ h1
  · obtain ⟨b',off',e',h1,_⟩:=hs.acts j hj 0 (List.length_pos_iff.2 hl)
    rw [e] at e'
    cases e'
    exact World.block_lt_of_cell? w ⟨b,off + 0 * 4,none⟩ h1
theorem ScriptsIn.at' {w w':World} {so:Option Addr} {ao:Nat→Option Addr} {acap:Nat→Nat} {ss:List (List A4)} (h:ScriptsIn w so ao acap ss) (hb:∀ k,k < w.heap.size→((∃ off,so=some ⟨k,off,none⟩)∨∃ i,∃ h:i < ss.length,ss[i]≠[]∧∃ off,ao i=some ⟨k,off,none⟩)→w'.heap[k]?=w.heap[k]?):ScriptsIn w' so ao acap ss:=by
  refine ⟨fun j hj=>?_,fun j hj=>fun i hi=>?_⟩
  · obtain ⟨b,off,e,h1⟩:=h.at_ j hj
    exact ⟨b,off,e,by rw [cell_of_block (hb b (World.block_lt_of_cell? w ⟨b,off + j,none⟩ h1) (.inl ⟨off,e⟩))];exact h1⟩
  · obtain ⟨b,off,e,h1,h2,h3,h4⟩:=h.acts j hj i hi
    have hl:=hb b (World.block_lt_of_cell? w ⟨b,off + i * 4,none⟩ h1) (.inr ⟨j,hj,by intro e;rw [e] at hi;simp at hi,off,e⟩)
    exact ⟨b,off,e,by rw [cell_of_block hl];exact h1,by rw [cell_of_block hl];exact h2,by rw [cell_of_block hl];exact h3,by rw [cell_of_block hl];exact h4⟩
theorem Awoke.lawAt2 {W w w':World} {gb:Nat} (A:Awoke [] gb w w') (hl:∀ k,k < W.heap.size→w.heap[k]?=W.heap[k]?) (hs:W.heap.size≤w.heap.size):LawAt W [gb] gb w' :=
  ⟨A.hid,List.mem_cons_self ..,fun x hx=>by have:=A.hgb;simp at hx;omega,A.cnt,fun k hk=>(A.low k (by omega) (by simp)).trans (hl k hk),Nat.le_trans hs A.size⟩
theorem hid_nil (w:World):HidOk (fun k=>k∈([]:List Nat)) w:=fun k hk=>by cases hk
theorem awake_at {W w:World} {n0:Nat} (pos:0 < n0):CallsL Try.prog (LM Try.prog (LawPost W)) (fun _=>True) 11 #[] (sitI [] ⟨0,0,some 0⟩ n0) w (fun r s' w'=>∃ gb,r=.inl (.bool true)∧s'=sitI [gb] (c0 gb 1) (n0 + 2)∧Awoke [] gb w w') :=
  awake_calls (fun h=>by cases h) (hid_nil w) (.inl (by simp)) pos
end Go.Proofs.Ytndppafplgilbaa
namespace Go.Proofs.Ytndppafplgilbaa
open Go Go.Conc Go.RowKit
theorem run_slice_ints {a:Option Addr} {n c k:Nat} (hk:k≤c) (w:World):(Instr.sliceAt 22 (.slice a n c) none (some (.int .i64 (k:Int))) none).run Try.prog w=.ok (.slice a k c) w:=by
  have h0:(0:Int)≤(k:Int):=by omega
  have h1:(k:Int)≤(c:Int):=by omega
  have hs:sliced a 0 k c 1=.slice a k c:=by
    unfold sliced
    cases a with
    | none=>simp
    | some a=>simp [Addr.add]
  simp [go_sem,h0,h1]
theorem events_slice_ints {a:Option Addr} {n c k:Nat} (hk:k≤c) (w:World):(Instr.sliceAt 22 (.slice a n c) none (some (.int .i64 (k:Int))) none).events Try.prog w #[]=#[]:=by
  have h0:(0:Int)≤(k:Int):=by omega
  simp [Instr.sliceAt,Instr.slice,Instr.sliceBounds,Instr.sliceBound,go_sem,h0,hk]
theorem run_sliceTo {ρ:Operand→Value} {o:Oper} {x y:Operand} {a:Option Addr} {n c k:Nat} (ho:o.op=.slice 22 x none (some y) none) (hx:ρ x=.slice a n c) (hy:ρ y=.int .i64 (k:Int)) (hk:k≤c) (w:World):(execOp ρ o).run Try.prog w=.ok (.value (.slice a k c)) w:=by
  unfold execOp
  simp only [ho,Option.map_some,Option.map_none,hx,hy,Sem.run_bind,run_slice_ints hk]
  rfl
theorem events_sliceTo {ρ:Operand→Value} {o:Oper} {x y:Operand} {a:Option Addr} {n c k:Nat} (ho:o.op=.slice 22 x none (some y) none) (hx:ρ x=.slice a n c) (hy:ρ y=.int .i64 (k:Int)) (hk:k≤c) (w:World):(execOp ρ o).events Try.prog w #[]=#[]:=by
  unfold execOp
  simp only [ho,Option.map_some,Option.map_none,hx,hy]
  simp [go_sem,events_slice_ints hk]
end Go.Proofs.Ytndppafplgilbaa
