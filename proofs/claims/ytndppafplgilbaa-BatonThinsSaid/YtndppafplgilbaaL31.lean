/-
  larchlaw04.BatonThins returns true for every input. No condition. (Part 31 of 49; joined by program.)
-/
import Derived.Test.YtndppafplgilbaaL30
import Derived.Test.YtndppafplgilbaaL06
set_option linter.unusedVariables false
set_option linter.unusedSimpArgs false
set_option linter.unusedSectionVars false
set_option maxRecDepth 100000
namespace Go.Proofs.Ytndppafplgilbaa
open Go Go.Conc Go.RowKit
def dynOf (l:List FuncId) (gs:List (FuncId × List Nat)) (T:List (TypeId × String × FuncId)):Dyn:={ F:=fun f=>l.contains f,G:=fun f=>(gs.lookup f).getD [],T }
def bodyOkB (P:Program) (D:Dyn) (f:FuncId):Bool:=match P.funcs[f]? with
  | some fn=>!(fn.name == "runtime.NumGoroutine") && (match fn.body with | some c=>okCode P D f c | none=>false)
  | none=>false
theorem Closed.of {P:Program} {F X:List FuncId} {gs:List (FuncId × List Nat)} {T:List (TypeId × String × FuncId)} (hF:(F.all fun f=>bodyOkB P (dynOf (F ++ X) gs T) f)=true) (hX:∀ f∈X,∃ fn,P.funcs[f]?=some fn∧Ext P fn) (hM:Meths P (dynOf (F ++ X) gs T)):Closed P (dynOf (F ++ X) gs T):=by
  have key:∀ f∈F,∃ fn c,P.funcs[f]?=some fn∧(fn.name == "runtime.NumGoroutine")=false∧fn.body=some c∧okCode P (dynOf (F ++ X) gs T) f c=true:=fun f hf=>by
    have h:=List.all_eq_true.1 hF f hf
    unfold bodyOkB at h
    cases hfn:P.funcs[f]? with
    | none=>rw [hfn] at h;cases h
    | some fn =>
      rw [hfn] at h
      simp only [Bool.and_eq_true,Bool.not_eq_true'] at h
      cases hb:fn.body with
      | none=>rw [hb] at h;cases h.2
      | some c=>rw [hb] at h;exact ⟨fn,c,rfl,h.1,hb,h.2⟩
  have mem:∀ f,(dynOf (F ++ X) gs T).F f=true→f∈F∨f∈X:=fun f h=>by
    simp only [dynOf,List.contains_eq_mem,decide_eq_true_eq,List.mem_append] at h
    exact h
  refine ⟨fun f hf=>?_,fun f fn c hf hfn hb=>?_,hM⟩
  · rcases mem f hf with h | h
    · obtain ⟨fn,c,h1,h2,h3,_⟩:=key f h
      exact ⟨fn,h1,.inr ⟨h2,by rw [h3];rfl⟩⟩
    · obtain ⟨fn,h1,h2⟩:=hX f h
      exact ⟨fn,h1,.inl h2⟩
  · rcases mem f hf with h | h
    · obtain ⟨fn',c',h1,_,h3,h4⟩:=key f h
      rw [hfn] at h1;cases h1
      rw [hb] at h3;cases h3
      exact h4
    · obtain ⟨fn',h1,h2⟩:=hX f h
      rw [hfn] at h1;cases h1
      have:=h2.bare
      rw [hb] at this;cases this
theorem ext_store:∃ fn,Try.prog.funcs[100]?=some fn∧Ext Try.prog fn:=⟨_,Try.func100,by kernel_rfl,by kernel_rfl,by kernel_rfl,_,by kernel_rfl,sim_atomStore⟩
theorem ext_load:∃ fn,Try.prog.funcs[110]?=some fn∧Ext Try.prog fn:=⟨_,Try.func110,by kernel_rfl,by kernel_rfl,by kernel_rfl,Extern.Atomic.loadT (.int .i64),by kernel_rfl,sim_atomLoad _⟩
theorem ext_swap:∃ fn,Try.prog.funcs[132]?=some fn∧Ext Try.prog fn:=⟨_,Try.func132,by kernel_rfl,by kernel_rfl,by kernel_rfl,Extern.Atomic.swapT (.int .i64),by kernel_rfl,sim_atomSwap _⟩
theorem ext_cas:∃ fn,Try.prog.funcs[135]?=some fn∧Ext Try.prog fn:=⟨_,Try.func135,by kernel_rfl,by kernel_rfl,by kernel_rfl,Extern.Atomic.casT (.int .i64),by kernel_rfl,sim_atomCas _⟩
theorem ext_add:∃ fn,Try.prog.funcs[101]?=some fn∧Ext Try.prog fn:=⟨_,Try.func101,by kernel_rfl,by kernel_rfl,by kernel_rfl,Extern.Atomic.update (Op.intArith .add) .i64 true,by kernel_rfl,sim_atomUpdate _ (fun _ _ _=>sim_intArith _ _ _ _) _ _⟩
theorem ext_and:∃ fn,Try.prog.funcs[133]?=some fn∧Ext Try.prog fn:=⟨_,Try.func133,by kernel_rfl,by kernel_rfl,by kernel_rfl,Extern.Atomic.update (Op.intBits .and) .i64 false,by kernel_rfl,sim_atomUpdate _ (fun _ _ _=>sim_intBits _ _ _ _) _ _⟩
theorem ext_or:∃ fn,Try.prog.funcs[134]?=some fn∧Ext Try.prog fn:=⟨_,Try.func134,by kernel_rfl,by kernel_rfl,by kernel_rfl,Extern.Atomic.update (Op.intBits .or) .i64 false,by kernel_rfl,sim_atomUpdate _ (fun _ _ _=>sim_intBits _ _ _ _) _ _⟩
def dynAF:List FuncId:=[30,32,46,47,48,49,52,63,64,65,78,79,80,81,82,83,84,85,86,87,88,89,90,104,105,106,107,108,109,156]
def dynAX:List FuncId:=[100,101,110,132,133,134,135]
def dynAG:List (FuncId × List Nat):=[(32,[1,7]),(47,[1,6]),(49,[8,31,66]),(52,[1,5]),(64,[0,6]),(78,[1,11]),(80,[2,3,18,34]),(83,[1,12,17,24,31,38,48,55]),(85,[1,6]),(86,[1,7]),(87,[1,7]),(88,[1,7]),(89,[1,9])]
def dynA:Dyn:=dynOf (dynAF ++ dynAX) dynAG [(155, "Pass",156)]
theorem meth_tape:Meths Try.prog dynA:=fun e he=>by
  have he:e∈[(155, "Pass",156)]:=he
  rw [List.mem_singleton] at he
  subst he
  exact ⟨fun v w es=>by kernel_rfl,by kernel_rfl,by kernel_rfl⟩
theorem closedA:Closed Try.prog dynA:=Closed.of (by kernel_rfl) (fun f hf=>by
  have hf:f∈dynAX:=hf
  simp only [dynAX,List.mem_cons,List.not_mem_nil,or_false] at hf
  rcases hf with rfl | rfl | rfl | rfl | rfl | rfl | rfl
  · exact ext_store
  · exact ext_add
  · exact ext_load
  · exact ext_swap
  · exact ext_and
  · exact ext_or
  · exact ext_cas) meth_tape
end Go.Proofs.Ytndppafplgilbaa
namespace Go.Proofs.Ytndppafplgilbaa
open Go Go.Conc Go.RowKit
open Go.ConcN (sumTo upd sumTo_upd upd_ne upd_same)
abbrev NumC (nb:Nat) (v:Int) (w:World):Prop:=w.heap[nb]?=some (.cells #[.int .i64 v] 139 (0,0))
theorem slots_of {D:Dyn} {f:FuncId} {l:List Nat} (hl:D.G f=l) {args:Array Value} (h:l.all (fun s=>gv D (args.getD s undef))=true):Slots D f args:=fun s hs=>by
  rw [hl] at hs
  exact List.all_eq_true.1 h s hs
def SkMore (Sk:List Frame→Prop):Prop:=∀ (f:FuncId) (fn:Func) (ts:Array Value) (todo:List Item) (cs:List Frame),Try.prog.funcs[f]?=some fn→Sk cs→Sk ((bk f .normal).at ⟨ts,[]⟩ todo :: cs)
theorem skMore_F (fb gb:Nat):SkMore (SkF fb gb):=fun f fn ts todo cs hf h=>h.push hf
section
variable {Gh:Type} {sit:Gh→Sit} {h:Nat} {L:Gh→Goroutine→World→Prop} (O:OwnL Try.prog sit h L) {Sk:List Frame→Prop} (hSk:SkMore Sk)
variable {g:Value} {s:Gh} {w:World} {Ho:Gh→Nat→Prop} {nb:Nat} {R:Gh→World→Prop}
def NumOk (sit:Gh→Sit) (h:Nat) (Ho:Gh→Nat→Prop) (nb:Nat) (R:Gh→World→Prop):Prop:=∀ s' w',R s' w'→Hides (sit s') h (Ho s')∧HidOk (Ho s') w'∧¬ Ho s' nb∧∃ v,NumC nb v w'
structure NumDone (sit:Gh→Sit) (Ho:Gh→Nat→Prop) (nb:Nat) (R:Gh→World→Prop) (v n:Int) (s':Gh) (w' w'':World):Prop where
  pre:R s' w'
  was:NumC nb v w'
  now:NumC nb n w''
  grow:Grow (sit s').st (Ho s') (fun k=>k=nb) w' w''
include O hSk
set_option maxHeartbeats 2000000 in
theorem numL_load  (hp:CallsL Try.prog L Sk 64 #[g,.int .i64 1] s w (fun r s' w'=>r=.inl (.tuple #[])∧R s' w')) (hR:NumOk sit h Ho nb R) :
    CallsL Try.prog L Sk 52 #[.pointer (some (c0 nb 0)),g] s w (fun r s' w''=>∃ w' v,NumDone sit Ho nb R v (v) s' w' w''∧r=.inl (.int .i64 v)):=by
  intro c cs hS hkd hcm h1 _
  have T:=O.toCtl
  rw [enter_bk Try.func52 rfl]
  walk_nrmf Try.f52
  refine laW ?_
  (refine l_enter T (fn:=Try.f64) (c:=.skip) (g:=64) (xs:=#[g,.int .i64 1]) (by simp) rfl (by rfl) (fun w=>?_) (fun w=>?_) ?_;(focus go_simp);(focus (simp [go_sem,events_into Try.func64 (by kernel_rfl) (by kernel_rfl)])))
  refine hp _ _ (hSk _ _ _ _ _ Try.func52 hS) (by simp [bk,Frame.at]) rfl (fun v s' w' hP=>?_) (fun ch s' w' hP=>by cases hP.1)
  obtain ⟨hv,hRR⟩:=hP
  cases hv
  rw [bk_finish rfl]
  walk_nrm
  obtain ⟨hh,ok,hn,v,hc⟩:=hR _ _ hRR
  refine laW ?_
  (refine l_enter T (fn:=Try.f90) (c:=.skip) (g:=90) (xs:=#[.pointer (some ⟨nb,0,none⟩)]) (by simp) rfl (by rfl) (fun w=>?_) (fun w=>?_) ?_;(focus go_simp);(focus (simp [go_sem,events_into Try.func90 (by kernel_rfl) (by kernel_rfl)])))
  refine callsL_alone O (Sk:=Sk) (Post:=fun r s'' w''=>r=.inl (.int .i64 v)∧s''=s'∧∃ v0 v',Masked (Ho s') 0 v0 w'∧Alone (sit s').st (Ho s') w' v' w''∧v'.heap[nb]?=some (.cells #[.int .i64 (v)] 139 (0,0))∧(∀ k,k≠nb→v'.heap[k]?=v0.heap[k]?)) closedA hh (by kernel_rfl) Try.func90 rfl (slots_of rfl rfl) ok (R:=fun v0 z v'=>z=.int .i64 v∧v'.heap[nb]?=some (.cells #[.int .i64 (v)] 139 (0,0))∧∀ k,k≠nb→v'.heap[k]?=v0.heap[k]?) (fun v0 M=>?_) (fun v0 z v' w'' M hQ A=>⟨by rw [hQ.1],rfl,v0,v',M,A,hQ.2.1,hQ.2.2⟩) _ _ (hSk _ _ _ _ _ Try.func52 hS) (by simp [bk,Frame.at]) rfl (fun z s'' w'' hP=>?_) (fun ch s'' w'' hP=>by cases hP.1)
  · have hb:=M.seen hn hc
    have h1:=cell_of_heap hb (j:=0) rfl
    have h2:=frozen_of_heap hb (j:=0)
    refine (i64_load nb 0 v v0 h1).mono ?_
    rintro e w' ⟨rfl,hw⟩
    refine ⟨rfl,?_⟩
    subst hw
    exact ⟨hb,fun _ _=>rfl⟩
  · obtain ⟨hz,rfl,v0,v',M,A,hnow,hk⟩:=hP
    cases hz
    rw [bk_finish rfl]
    walk_nrm
    refine laW ?_
    refine l_ret T ?_
    refine l_leave T Try.func52 rfl (resultsC_tmp rfl _) (h1 _ _ _ ⟨w',v,⟨hRR,hc,A.masked.cells hnow,A.grow M fun k _ hr=>hk k hr⟩,rfl⟩)
set_option maxHeartbeats 2000000 in
theorem numL_store {x:Int} (hp:CallsL Try.prog L Sk 64 #[g,.int .i64 2] s w (fun r s' w'=>r=.inl (.tuple #[])∧R s' w')) (hR:NumOk sit h Ho nb R) :
    CallsL Try.prog L Sk 85 #[.pointer (some (c0 nb 0)),g,.int .i64 x] s w (fun r s' w''=>∃ w' v,NumDone sit Ho nb R v (x) s' w' w''∧r=.inl (.tuple #[])):=by
  intro c cs hS hkd hcm h1 _
  have T:=O.toCtl
  rw [enter_bk Try.func85 rfl]
  walk_nrmf Try.f85
  refine laW ?_
  (refine l_enter T (fn:=Try.f64) (c:=.skip) (g:=64) (xs:=#[g,.int .i64 2]) (by simp) rfl (by rfl) (fun w=>?_) (fun w=>?_) ?_;(focus go_simp);(focus (simp [go_sem,events_into Try.func64 (by kernel_rfl) (by kernel_rfl)])))
  refine hp _ _ (hSk _ _ _ _ _ Try.func85 hS) (by simp [bk,Frame.at]) rfl (fun v s' w' hP=>?_) (fun ch s' w' hP=>by cases hP.1)
  obtain ⟨hv,hRR⟩:=hP
  cases hv
  rw [bk_finish rfl]
  walk_nrm
  obtain ⟨hh,ok,hn,v,hc⟩:=hR _ _ hRR
  refine laW ?_
  (refine l_enter T (fn:=Try.f63) (c:=.skip) (g:=63) (xs:=#[.pointer (some ⟨nb,0,none⟩),.int .i64 x]) (by simp) rfl (by rfl) (fun w=>?_) (fun w=>?_) ?_;(focus go_simp);(focus (simp [go_sem,events_into Try.func63 (by kernel_rfl) (by kernel_rfl)])))
  refine callsL_alone O (Sk:=Sk) (Post:=fun r s'' w''=>r=.inl (.tuple #[])∧s''=s'∧∃ v0 v',Masked (Ho s') 0 v0 w'∧Alone (sit s').st (Ho s') w' v' w''∧v'.heap[nb]?=some (.cells #[.int .i64 (x)] 139 (0,0))∧(∀ k,k≠nb→v'.heap[k]?=v0.heap[k]?)) closedA hh (by kernel_rfl) Try.func63 rfl (slots_of rfl rfl) ok (R:=fun v0 z v'=>z=.tuple #[]∧v'.heap[nb]?=some (.cells #[.int .i64 (x)] 139 (0,0))∧∀ k,k≠nb→v'.heap[k]?=v0.heap[k]?) (fun v0 M=>?_) (fun v0 z v' w'' M hQ A=>⟨by rw [hQ.1],rfl,v0,v',M,A,hQ.2.1,hQ.2.2⟩) _ _ (hSk _ _ _ _ _ Try.func85 hS) (by simp [bk,Frame.at]) rfl (fun z s'' w'' hP=>?_) (fun ch s'' w'' hP=>by cases hP.1)
  · have hb:=M.seen hn hc
    have h1:=cell_of_heap hb (j:=0) rfl
    have h2:=frozen_of_heap hb (j:=0)
    refine (i64_store nb 0 _ x v0 h1 h2).mono ?_
    rintro e w' ⟨rfl,hw⟩
    refine ⟨rfl,?_⟩
    subst hw
    exact ⟨by rw [heap_setCell hb];simp,fun k hk=>setCell_ne _ _ _ hk⟩
  · obtain ⟨hz,rfl,v0,v',M,A,hnow,hk⟩:=hP
    cases hz
    rw [bk_finish rfl]
    walk_nrm
    refine laW ?_
    refine l_fin T ?_
    refine l_leave T Try.func85 rfl (resultsC_none rfl _) (h1 _ _ _ ⟨w',v,⟨hRR,hc,A.masked.cells hnow,A.grow M fun k _ hr=>hk k hr⟩,rfl⟩)
set_option maxHeartbeats 2000000 in
theorem numL_add {x:Int} (hp:CallsL Try.prog L Sk 64 #[g,.int .i64 3] s w (fun r s' w'=>r=.inl (.tuple #[])∧R s' w')) (hR:NumOk sit h Ho nb R) :
    CallsL Try.prog L Sk 32 #[.pointer (some (c0 nb 0)),g,.int .i64 x] s w (fun r s' w''=>∃ w' v,NumDone sit Ho nb R v (wrap64 (v + x)) s' w' w''∧r=.inl (.int .i64 (wrap64 (v + x)))):=by
  intro c cs hS hkd hcm h1 _
  have T:=O.toCtl
  rw [enter_bk Try.func32 rfl]
  walk_nrmf Try.f32
  refine laW ?_
  (refine l_enter T (fn:=Try.f64) (c:=.skip) (g:=64) (xs:=#[g,.int .i64 3]) (by simp) rfl (by rfl) (fun w=>?_) (fun w=>?_) ?_;(focus go_simp);(focus (simp [go_sem,events_into Try.func64 (by kernel_rfl) (by kernel_rfl)])))
  refine hp _ _ (hSk _ _ _ _ _ Try.func32 hS) (by simp [bk,Frame.at]) rfl (fun v s' w' hP=>?_) (fun ch s' w' hP=>by cases hP.1)
  obtain ⟨hv,hRR⟩:=hP
  cases hv
  rw [bk_finish rfl]
  walk_nrm
  obtain ⟨hh,ok,hn,v,hc⟩:=hR _ _ hRR
  refine laW ?_
  (refine l_enter T (fn:=Try.f65) (c:=.skip) (g:=65) (xs:=#[.pointer (some ⟨nb,0,none⟩),.int .i64 x]) (by simp) rfl (by rfl) (fun w=>?_) (fun w=>?_) ?_;(focus go_simp);(focus (simp [go_sem,events_into Try.func65 (by kernel_rfl) (by kernel_rfl)])))
  refine callsL_alone O (Sk:=Sk) (Post:=fun r s'' w''=>r=.inl (.int .i64 (wrap64 (v + x)))∧s''=s'∧∃ v0 v',Masked (Ho s') 0 v0 w'∧Alone (sit s').st (Ho s') w' v' w''∧v'.heap[nb]?=some (.cells #[.int .i64 (wrap64 (v + x))] 139 (0,0))∧(∀ k,k≠nb→v'.heap[k]?=v0.heap[k]?)) closedA hh (by kernel_rfl) Try.func65 rfl (slots_of rfl rfl) ok (R:=fun v0 z v'=>z=.int .i64 (wrap64 (v + x))∧v'.heap[nb]?=some (.cells #[.int .i64 (wrap64 (v + x))] 139 (0,0))∧∀ k,k≠nb→v'.heap[k]?=v0.heap[k]?) (fun v0 M=>?_) (fun v0 z v' w'' M hQ A=>⟨by rw [hQ.1],rfl,v0,v',M,A,hQ.2.1,hQ.2.2⟩) _ _ (hSk _ _ _ _ _ Try.func32 hS) (by simp [bk,Frame.at]) rfl (fun z s'' w'' hP=>?_) (fun ch s'' w'' hP=>by cases hP.1)
  · have hb:=M.seen hn hc
    have h1:=cell_of_heap hb (j:=0) rfl
    have h2:=frozen_of_heap hb (j:=0)
    refine (i64_add nb 0 v x v0 h1 h2).mono ?_
    rintro e w' ⟨rfl,hw⟩
    refine ⟨rfl,?_⟩
    subst hw
    exact ⟨by rw [heap_setCell hb];simp,fun k hk=>setCell_ne _ _ _ hk⟩
  · obtain ⟨hz,rfl,v0,v',M,A,hnow,hk⟩:=hP
    cases hz
    rw [bk_finish rfl]
    walk_nrm
    refine laW ?_
    refine l_ret T ?_
    refine l_leave T Try.func32 rfl (resultsC_tmp rfl _) (h1 _ _ _ ⟨w',v,⟨hRR,hc,A.masked.cells hnow,A.grow M fun k _ hr=>hk k hr⟩,rfl⟩)
set_option maxHeartbeats 2000000 in
theorem numL_swap {x:Int} (hp:CallsL Try.prog L Sk 64 #[g,.int .i64 4] s w (fun r s' w'=>r=.inl (.tuple #[])∧R s' w')) (hR:NumOk sit h Ho nb R) :
    CallsL Try.prog L Sk 86 #[.pointer (some (c0 nb 0)),g,.int .i64 x] s w (fun r s' w''=>∃ w' v,NumDone sit Ho nb R v (x) s' w' w''∧r=.inl (.int .i64 v)):=by
  intro c cs hS hkd hcm h1 _
  have T:=O.toCtl
  rw [enter_bk Try.func86 rfl]
  walk_nrmf Try.f86
  refine laW ?_
  (refine l_enter T (fn:=Try.f64) (c:=.skip) (g:=64) (xs:=#[g,.int .i64 4]) (by simp) rfl (by rfl) (fun w=>?_) (fun w=>?_) ?_;(focus go_simp);(focus (simp [go_sem,events_into Try.func64 (by kernel_rfl) (by kernel_rfl)])))
  refine hp _ _ (hSk _ _ _ _ _ Try.func86 hS) (by simp [bk,Frame.at]) rfl (fun v s' w' hP=>?_) (fun ch s' w' hP=>by cases hP.1)
  obtain ⟨hv,hRR⟩:=hP
  cases hv
  rw [bk_finish rfl]
  walk_nrm
  obtain ⟨hh,ok,hn,v,hc⟩:=hR _ _ hRR
  refine laW ?_
  (refine l_enter T (fn:=Try.f106) (c:=.skip) (g:=106) (xs:=#[.pointer (some ⟨nb,0,none⟩),.int .i64 x]) (by simp) rfl (by rfl) (fun w=>?_) (fun w=>?_) ?_;(focus go_simp);(focus (simp [go_sem,events_into Try.func106 (by kernel_rfl) (by kernel_rfl)])))
  refine callsL_alone O (Sk:=Sk) (Post:=fun r s'' w''=>r=.inl (.int .i64 v)∧s''=s'∧∃ v0 v',Masked (Ho s') 0 v0 w'∧Alone (sit s').st (Ho s') w' v' w''∧v'.heap[nb]?=some (.cells #[.int .i64 (x)] 139 (0,0))∧(∀ k,k≠nb→v'.heap[k]?=v0.heap[k]?)) closedA hh (by kernel_rfl) Try.func106 rfl (slots_of rfl rfl) ok (R:=fun v0 z v'=>z=.int .i64 v∧v'.heap[nb]?=some (.cells #[.int .i64 (x)] 139 (0,0))∧∀ k,k≠nb→v'.heap[k]?=v0.heap[k]?) (fun v0 M=>?_) (fun v0 z v' w'' M hQ A=>⟨by rw [hQ.1],rfl,v0,v',M,A,hQ.2.1,hQ.2.2⟩) _ _ (hSk _ _ _ _ _ Try.func86 hS) (by simp [bk,Frame.at]) rfl (fun z s'' w'' hP=>?_) (fun ch s'' w'' hP=>by cases hP.1)
  · have hb:=M.seen hn hc
    have h1:=cell_of_heap hb (j:=0) rfl
    have h2:=frozen_of_heap hb (j:=0)
    refine (i64_swap nb 0 v x v0 h1 h2).mono ?_
    rintro e w' ⟨rfl,hw⟩
    refine ⟨rfl,?_⟩
    subst hw
    exact ⟨by rw [heap_setCell hb];simp,fun k hk=>setCell_ne _ _ _ hk⟩
  · obtain ⟨hz,rfl,v0,v',M,A,hnow,hk⟩:=hP
    cases hz
    rw [bk_finish rfl]
    walk_nrm
    refine laW ?_
    refine l_ret T ?_
    refine l_leave T Try.func86 rfl (resultsC_tmp rfl _) (h1 _ _ _ ⟨w',v,⟨hRR,hc,A.masked.cells hnow,A.grow M fun k _ hr=>hk k hr⟩,rfl⟩)
set_option maxHeartbeats 2000000 in
theorem numL_cas {x y:Int} (hp:CallsL Try.prog L Sk 64 #[g,.int .i64 5] s w (fun r s' w'=>r=.inl (.tuple #[])∧R s' w')) (hR:NumOk sit h Ho nb R) :
    CallsL Try.prog L Sk 89 #[.pointer (some (c0 nb 0)),g,.int .i64 x,.int .i64 y] s w (fun r s' w''=>∃ w' v,NumDone sit Ho nb R v (casNew v x y) s' w' w''∧r=.inl (.bool (v == x))):=by
  intro c cs hS hkd hcm h1 _
  have T:=O.toCtl
  rw [enter_bk Try.func89 rfl]
  walk_nrmf Try.f89
  refine laW ?_
  (refine l_enter T (fn:=Try.f64) (c:=.skip) (g:=64) (xs:=#[g,.int .i64 5]) (by simp) rfl (by rfl) (fun w=>?_) (fun w=>?_) ?_;(focus go_simp);(focus (simp [go_sem,events_into Try.func64 (by kernel_rfl) (by kernel_rfl)])))
  refine hp _ _ (hSk _ _ _ _ _ Try.func89 hS) (by simp [bk,Frame.at]) rfl (fun v s' w' hP=>?_) (fun ch s' w' hP=>by cases hP.1)
  obtain ⟨hv,hRR⟩:=hP
  cases hv
  rw [bk_finish rfl]
  walk_nrm
  obtain ⟨hh,ok,hn,v,hc⟩:=hR _ _ hRR
  refine laW ?_
  (refine l_enter T (fn:=Try.f109) (c:=.skip) (g:=109) (xs:=#[.pointer (some ⟨nb,0,none⟩),.int .i64 x,.int .i64 y]) (by simp) rfl (by rfl) (fun w=>?_) (fun w=>?_) ?_;(focus go_simp);(focus (simp [go_sem,events_into Try.func109 (by kernel_rfl) (by kernel_rfl)])))
  refine callsL_alone O (Sk:=Sk) (Post:=fun r s'' w''=>r=.inl (.bool (v == x))∧s''=s'∧∃ v0 v',Masked (Ho s') 0 v0 w'∧Alone (sit s').st (Ho s') w' v' w''∧v'.heap[nb]?=some (.cells #[.int .i64 (casNew v x y)] 139 (0,0))∧(∀ k,k≠nb→v'.heap[k]?=v0.heap[k]?)) closedA hh (by kernel_rfl) Try.func109 rfl (slots_of rfl rfl) ok (R:=fun v0 z v'=>z=.bool (v == x)∧v'.heap[nb]?=some (.cells #[.int .i64 (casNew v x y)] 139 (0,0))∧∀ k,k≠nb→v'.heap[k]?=v0.heap[k]?) (fun v0 M=>?_) (fun v0 z v' w'' M hQ A=>⟨by rw [hQ.1],rfl,v0,v',M,A,hQ.2.1,hQ.2.2⟩) _ _ (hSk _ _ _ _ _ Try.func89 hS) (by simp [bk,Frame.at]) rfl (fun z s'' w'' hP=>?_) (fun ch s'' w'' hP=>by cases hP.1)
  · have hb:=M.seen hn hc
    have h1:=cell_of_heap hb (j:=0) rfl
    have h2:=frozen_of_heap hb (j:=0)
    refine (i64_cas nb 0 v x y v0 h1 h2).mono ?_
    rintro e w' ⟨rfl,hw⟩
    refine ⟨rfl,?_⟩
    subst hw
    exact ⟨by rw [heap_setCell hb];simp,fun k hk=>setCell_ne _ _ _ hk⟩
  · obtain ⟨hz,rfl,v0,v',M,A,hnow,hk⟩:=hP
    cases hz
    rw [bk_finish rfl]
    walk_nrm
    refine laW ?_
    refine l_ret T ?_
    refine l_leave T Try.func89 rfl (resultsC_tmp rfl _) (h1 _ _ _ ⟨w',v,⟨hRR,hc,A.masked.cells hnow,A.grow M fun k _ hr=>hk k hr⟩,rfl⟩)
set_option maxHeartbeats 2000000 in
theorem numL_and {x:Int} (hp:CallsL Try.prog L Sk 64 #[g,.int .i64 6] s w (fun r s' w'=>r=.inl (.tuple #[])∧R s' w')) (hR:NumOk sit h Ho nb R) :
    CallsL Try.prog L Sk 87 #[.pointer (some (c0 nb 0)),g,.int .i64 x] s w (fun r s' w''=>∃ w' v,NumDone sit Ho nb R v (Go.bits .and .i64 v x) s' w' w''∧r=.inl (.int .i64 v)):=by
  intro c cs hS hkd hcm h1 _
  have T:=O.toCtl
  rw [enter_bk Try.func87 rfl]
  walk_nrmf Try.f87
  refine laW ?_
  (refine l_enter T (fn:=Try.f64) (c:=.skip) (g:=64) (xs:=#[g,.int .i64 6]) (by simp) rfl (by rfl) (fun w=>?_) (fun w=>?_) ?_;(focus go_simp);(focus (simp [go_sem,events_into Try.func64 (by kernel_rfl) (by kernel_rfl)])))
  refine hp _ _ (hSk _ _ _ _ _ Try.func87 hS) (by simp [bk,Frame.at]) rfl (fun v s' w' hP=>?_) (fun ch s' w' hP=>by cases hP.1)
  obtain ⟨hv,hRR⟩:=hP
  cases hv
  rw [bk_finish rfl]
  walk_nrm
  obtain ⟨hh,ok,hn,v,hc⟩:=hR _ _ hRR
  refine laW ?_
  (refine l_enter T (fn:=Try.f107) (c:=.skip) (g:=107) (xs:=#[.pointer (some ⟨nb,0,none⟩),.int .i64 x]) (by simp) rfl (by rfl) (fun w=>?_) (fun w=>?_) ?_;(focus go_simp);(focus (simp [go_sem,events_into Try.func107 (by kernel_rfl) (by kernel_rfl)])))
  refine callsL_alone O (Sk:=Sk) (Post:=fun r s'' w''=>r=.inl (.int .i64 v)∧s''=s'∧∃ v0 v',Masked (Ho s') 0 v0 w'∧Alone (sit s').st (Ho s') w' v' w''∧v'.heap[nb]?=some (.cells #[.int .i64 (Go.bits .and .i64 v x)] 139 (0,0))∧(∀ k,k≠nb→v'.heap[k]?=v0.heap[k]?)) closedA hh (by kernel_rfl) Try.func107 rfl (slots_of rfl rfl) ok (R:=fun v0 z v'=>z=.int .i64 v∧v'.heap[nb]?=some (.cells #[.int .i64 (Go.bits .and .i64 v x)] 139 (0,0))∧∀ k,k≠nb→v'.heap[k]?=v0.heap[k]?) (fun v0 M=>?_) (fun v0 z v' w'' M hQ A=>⟨by rw [hQ.1],rfl,v0,v',M,A,hQ.2.1,hQ.2.2⟩) _ _ (hSk _ _ _ _ _ Try.func87 hS) (by simp [bk,Frame.at]) rfl (fun z s'' w'' hP=>?_) (fun ch s'' w'' hP=>by cases hP.1)
  · have hb:=M.seen hn hc
    have h1:=cell_of_heap hb (j:=0) rfl
    have h2:=frozen_of_heap hb (j:=0)
    refine (i64_and nb 0 v x v0 h1 h2).mono ?_
    rintro e w' ⟨rfl,hw⟩
    refine ⟨rfl,?_⟩
    subst hw
    exact ⟨by rw [heap_setCell hb];simp,fun k hk=>setCell_ne _ _ _ hk⟩
  · obtain ⟨hz,rfl,v0,v',M,A,hnow,hk⟩:=hP
    cases hz
    rw [bk_finish rfl]
    walk_nrm
    refine laW ?_
    refine l_ret T ?_
    refine l_leave T Try.func87 rfl (resultsC_tmp rfl _) (h1 _ _ _ ⟨w',v,⟨hRR,hc,A.masked.cells hnow,A.grow M fun k _ hr=>hk k hr⟩,rfl⟩)
set_option maxHeartbeats 2000000 in
theorem numL_or {x:Int} (hp:CallsL Try.prog L Sk 64 #[g,.int .i64 7] s w (fun r s' w'=>r=.inl (.tuple #[])∧R s' w')) (hR:NumOk sit h Ho nb R) :
    CallsL Try.prog L Sk 88 #[.pointer (some (c0 nb 0)),g,.int .i64 x] s w (fun r s' w''=>∃ w' v,NumDone sit Ho nb R v (Go.bits .or .i64 v x) s' w' w''∧r=.inl (.int .i64 v)):=by
  intro c cs hS hkd hcm h1 _
  have T:=O.toCtl
  rw [enter_bk Try.func88 rfl]
  walk_nrmf Try.f88
  refine laW ?_
  (refine l_enter T (fn:=Try.f64) (c:=.skip) (g:=64) (xs:=#[g,.int .i64 7]) (by simp) rfl (by rfl) (fun w=>?_) (fun w=>?_) ?_;(focus go_simp);(focus (simp [go_sem,events_into Try.func64 (by kernel_rfl) (by kernel_rfl)])))
  refine hp _ _ (hSk _ _ _ _ _ Try.func88 hS) (by simp [bk,Frame.at]) rfl (fun v s' w' hP=>?_) (fun ch s' w' hP=>by cases hP.1)
  obtain ⟨hv,hRR⟩:=hP
  cases hv
  rw [bk_finish rfl]
  walk_nrm
  obtain ⟨hh,ok,hn,v,hc⟩:=hR _ _ hRR
  refine laW ?_
  (refine l_enter T (fn:=Try.f108) (c:=.skip) (g:=108) (xs:=#[.pointer (some ⟨nb,0,none⟩),.int .i64 x]) (by simp) rfl (by rfl) (fun w=>?_) (fun w=>?_) ?_;(focus go_simp);(focus (simp [go_sem,events_into Try.func108 (by kernel_rfl) (by kernel_rfl)])))
  refine callsL_alone O (Sk:=Sk) (Post:=fun r s'' w''=>r=.inl (.int .i64 v)∧s''=s'∧∃ v0 v',Masked (Ho s') 0 v0 w'∧Alone (sit s').st (Ho s') w' v' w''∧v'.heap[nb]?=some (.cells #[.int .i64 (Go.bits .or .i64 v x)] 139 (0,0))∧(∀ k,k≠nb→v'.heap[k]?=v0.heap[k]?)) closedA hh (by kernel_rfl) Try.func108 rfl (slots_of rfl rfl) ok (R:=fun v0 z v'=>z=.int .i64 v∧v'.heap[nb]?=some (.cells #[.int .i64 (Go.bits .or .i64 v x)] 139 (0,0))∧∀ k,k≠nb→v'.heap[k]?=v0.heap[k]?) (fun v0 M=>?_) (fun v0 z v' w'' M hQ A=>⟨by rw [hQ.1],rfl,v0,v',M,A,hQ.2.1,hQ.2.2⟩) _ _ (hSk _ _ _ _ _ Try.func88 hS) (by simp [bk,Frame.at]) rfl (fun z s'' w'' hP=>?_) (fun ch s'' w'' hP=>by cases hP.1)
  · have hb:=M.seen hn hc
    have h1:=cell_of_heap hb (j:=0) rfl
    have h2:=frozen_of_heap hb (j:=0)
    refine (i64_or nb 0 v x v0 h1 h2).mono ?_
    rintro e w' ⟨rfl,hw⟩
    refine ⟨rfl,?_⟩
    subst hw
    exact ⟨by rw [heap_setCell hb];simp,fun k hk=>setCell_ne _ _ _ hk⟩
  · obtain ⟨hz,rfl,v0,v',M,A,hnow,hk⟩:=hP
    cases hz
    rw [bk_finish rfl]
    walk_nrm
    refine laW ?_
    refine l_ret T ?_
    refine l_leave T Try.func88 rfl (resultsC_tmp rfl _) (h1 _ _ _ ⟨w',v,⟨hRR,hc,A.masked.cells hnow,A.grow M fun k _ hr=>hk k hr⟩,rfl⟩)
end
end Go.Proofs.Ytndppafplgilbaa
namespace Go.Proofs.Ytndppafplgilbaa
open Go Go.Conc Go.RowKit
open Go.ConcN (sumTo upd sumTo_upd upd_ne upd_same)
section
variable {Gh:Type} {sit:Gh→Sit} {h:Nat} {L:Gh→Goroutine→World→Prop} (O:OwnL Try.prog sit h L) {Sk:List Frame→Prop} (hSk:SkMore Sk)
variable {g:Value} {s:Gh} {w:World} {Ho:Gh→Nat→Prop} {nb:Nat} {R:Gh→World→Prop} {at_ a b:Int}
theorem HidOk.lt {H:Nat→Prop} {w:World} (ok:HidOk H w) {x:Nat} (hx:H x):x < w.heap.size:=by
  obtain ⟨c,e,h1,_⟩:=ok x hx
  exact (Array.getElem?_eq_some_iff.1 h1).1
include O hSk
set_option maxRecDepth 100000 in
set_option maxHeartbeats 4000000 in
theorem actL_load (hh:Hides (sit s) h (Ho s)) (ok:HidOk (Ho s) w) (hp:∀ w1,Grow (sit s).st (Ho s) (fun _=>False) w w1→CallsL Try.prog L Sk 64 #[g,.int .i64 1] s w1 (fun r s' w'=>r=.inl (.tuple #[])∧R s' w')) (hR:NumOk sit h Ho nb R) :
    CallsL Try.prog L Sk 51 #[.pointer (some (c0 nb 0)),g,actV 1 at_ a b] s w (fun r s' w''=>∃ w' v,NumDone sit Ho nb R v (numNew 1 v a b) s' w' w''∧r=.inl (.int .i64 (numAns 1 v a))):=by
  intro c cs hS hkd hcm h1 _
  have T:=O.toCtl
  have hq:(Try.prog.funcs[51]?).any (·.norace)=false:=by rw [Try.func51];rfl
  rw [enter_bk Try.func51 rfl]
  walk_nrmf Try.f51
  refine laW ?_
  refine l_new O hh (by simp) ok rfl (by rfl) (by kernel_rfl) (fun n=>.pointer (some (c0 n 0))) (c:=#[.int .i64 1,.int .i64 at_,.int .i64 a,.int .i64 b]) (t:=103) (fun v=>by go_simp) (fun w1 hn1 G1 hl1=>?_)
  walk_nrm
  have hbH:¬ Ho s w.heap.size:=fun h=>by have:=ok.lt h;omega
  have hc0:w1.cell? ⟨w.heap.size,0,none⟩=some (.int .i64 1):=cell_of_heap hn1 (j:=0) rfl
  have hc2:w1.cell? ⟨w.heap.size,2,none⟩=some (.int .i64 a):=cell_of_heap hn1 (j:=2) rfl
  have hc3:w1.cell? ⟨w.heap.size,3,none⟩=some (.int .i64 b):=cell_of_heap hn1 (j:=3) rfl
  refine laW ?_
  (refine l_loadH O hh (by simp) rfl (by rfl) hc0 hbH (fun w₁ hc₁=>⟨by go_simp,by simp [listed,go_sem,hc₁];exact seen_cell hq _ _ _⟩) ?_;walk_nrm)
  refine laW ?_
  refine l_block T ?_
  refine laW ?_
  (refine l_cond T true (by simp [Act.eval] <;> omega) ?_;simp only [if_true,if_false,Bool.false_eq_true,↓reduceIte])
  refine laW ?_
  (refine l_enter T (fn:=Try.f52) (c:=.skip) (g:=52) (xs:=#[.pointer (some (c0 nb 0)),g]) (by simp) rfl (by rfl) (fun w=>?_) (fun w=>?_) ?_;(focus go_simp);(focus (simp [go_sem,events_into Try.func52 (by kernel_rfl) (by kernel_rfl)])))
  refine numL_load O hSk (hp w1 G1) hR _ _ (hSk _ _ _ _ _ Try.func51 hS) (by simp [bk,Frame.at]) rfl (fun z s' w'' hP=>?_) (fun ch s' w' hP=>by obtain ⟨_,_,_,h⟩:=hP;cases h)
  obtain ⟨w',v,D,hz⟩:=hP
  cases hz
  rw [bk_finish rfl]
  walk_nrm
  refine laW ?_
  refine l_ret T ?_
  exact l_leave T Try.func51 rfl (resultsC_tmp rfl _) (h1 _ _ _ ⟨w',v,D,rfl⟩)
set_option maxRecDepth 100000 in
set_option maxHeartbeats 4000000 in
theorem actL_store (hh:Hides (sit s) h (Ho s)) (ok:HidOk (Ho s) w) (hp:∀ w1,Grow (sit s).st (Ho s) (fun _=>False) w w1→CallsL Try.prog L Sk 64 #[g,.int .i64 2] s w1 (fun r s' w'=>r=.inl (.tuple #[])∧R s' w')) (hR:NumOk sit h Ho nb R) :
    CallsL Try.prog L Sk 51 #[.pointer (some (c0 nb 0)),g,actV 2 at_ a b] s w (fun r s' w''=>∃ w' v,NumDone sit Ho nb R v (numNew 2 v a b) s' w' w''∧r=.inl (.int .i64 (numAns 2 v a))):=by
  intro c cs hS hkd hcm h1 _
  have T:=O.toCtl
  have hq:(Try.prog.funcs[51]?).any (·.norace)=false:=by rw [Try.func51];rfl
  rw [enter_bk Try.func51 rfl]
  walk_nrmf Try.f51
  refine laW ?_
  refine l_new O hh (by simp) ok rfl (by rfl) (by kernel_rfl) (fun n=>.pointer (some (c0 n 0))) (c:=#[.int .i64 2,.int .i64 at_,.int .i64 a,.int .i64 b]) (t:=103) (fun v=>by go_simp) (fun w1 hn1 G1 hl1=>?_)
  walk_nrm
  have hbH:¬ Ho s w.heap.size:=fun h=>by have:=ok.lt h;omega
  have hc0:w1.cell? ⟨w.heap.size,0,none⟩=some (.int .i64 2):=cell_of_heap hn1 (j:=0) rfl
  have hc2:w1.cell? ⟨w.heap.size,2,none⟩=some (.int .i64 a):=cell_of_heap hn1 (j:=2) rfl
  have hc3:w1.cell? ⟨w.heap.size,3,none⟩=some (.int .i64 b):=cell_of_heap hn1 (j:=3) rfl
  refine laW ?_
  (refine l_loadH O hh (by simp) rfl (by rfl) hc0 hbH (fun w₁ hc₁=>⟨by go_simp,by simp [listed,go_sem,hc₁];exact seen_cell hq _ _ _⟩) ?_;walk_nrm)
  refine laW ?_
  refine l_block T ?_
  refine laW ?_
  (refine l_cond T false (by simp [Act.eval] <;> omega) ?_;simp only [if_true,if_false,Bool.false_eq_true,↓reduceIte])
  refine laW ?_
  (refine l_cond T true (by simp [Act.eval] <;> omega) ?_;simp only [if_true,if_false,Bool.false_eq_true,↓reduceIte])
  refine laW ?_
  (refine l_loadH O hh (by simp) rfl (by rfl) hc2 hbH (fun w₁ hc₁=>⟨by go_simp,by simp [listed,go_sem,hc₁];exact seen_cell hq _ _ _⟩) ?_;walk_nrm)
  refine laW ?_
  (refine l_enter T (fn:=Try.f85) (c:=.skip) (g:=85) (xs:=#[.pointer (some (c0 nb 0)),g,.int .i64 a]) (by simp) rfl (by rfl) (fun w=>?_) (fun w=>?_) ?_;(focus go_simp);(focus (simp [go_sem,events_into Try.func85 (by kernel_rfl) (by kernel_rfl)])))
  refine numL_store O hSk (hp w1 G1) hR _ _ (hSk _ _ _ _ _ Try.func51 hS) (by simp [bk,Frame.at]) rfl (fun z s' w'' hP=>?_) (fun ch s' w' hP=>by obtain ⟨_,_,_,h⟩:=hP;cases h)
  obtain ⟨w',v,D,hz⟩:=hP
  cases hz
  rw [bk_finish rfl]
  walk_nrm
  refine laW ?_
  refine l_inBlock T ?_
  refine laW ?_
  refine l_ret T ?_
  exact l_leave T Try.func51 rfl (resultsC_tmp rfl _) (h1 _ _ _ ⟨w',v,D,rfl⟩)
set_option maxRecDepth 100000 in
set_option maxHeartbeats 4000000 in
theorem actL_add (hh:Hides (sit s) h (Ho s)) (ok:HidOk (Ho s) w) (hp:∀ w1,Grow (sit s).st (Ho s) (fun _=>False) w w1→CallsL Try.prog L Sk 64 #[g,.int .i64 3] s w1 (fun r s' w'=>r=.inl (.tuple #[])∧R s' w')) (hR:NumOk sit h Ho nb R) :
    CallsL Try.prog L Sk 51 #[.pointer (some (c0 nb 0)),g,actV 3 at_ a b] s w (fun r s' w''=>∃ w' v,NumDone sit Ho nb R v (numNew 3 v a b) s' w' w''∧r=.inl (.int .i64 (numAns 3 v a))):=by
  intro c cs hS hkd hcm h1 _
  have T:=O.toCtl
  have hq:(Try.prog.funcs[51]?).any (·.norace)=false:=by rw [Try.func51];rfl
  rw [enter_bk Try.func51 rfl]
  walk_nrmf Try.f51
  refine laW ?_
  refine l_new O hh (by simp) ok rfl (by rfl) (by kernel_rfl) (fun n=>.pointer (some (c0 n 0))) (c:=#[.int .i64 3,.int .i64 at_,.int .i64 a,.int .i64 b]) (t:=103) (fun v=>by go_simp) (fun w1 hn1 G1 hl1=>?_)
  walk_nrm
  have hbH:¬ Ho s w.heap.size:=fun h=>by have:=ok.lt h;omega
  have hc0:w1.cell? ⟨w.heap.size,0,none⟩=some (.int .i64 3):=cell_of_heap hn1 (j:=0) rfl
  have hc2:w1.cell? ⟨w.heap.size,2,none⟩=some (.int .i64 a):=cell_of_heap hn1 (j:=2) rfl
  have hc3:w1.cell? ⟨w.heap.size,3,none⟩=some (.int .i64 b):=cell_of_heap hn1 (j:=3) rfl
  refine laW ?_
  (refine l_loadH O hh (by simp) rfl (by rfl) hc0 hbH (fun w₁ hc₁=>⟨by go_simp,by simp [listed,go_sem,hc₁];exact seen_cell hq _ _ _⟩) ?_;walk_nrm)
  refine laW ?_
  refine l_block T ?_
  refine laW ?_
  (refine l_cond T false (by simp [Act.eval] <;> omega) ?_;simp only [if_true,if_false,Bool.false_eq_true,↓reduceIte])
  refine laW ?_
  (refine l_cond T false (by simp [Act.eval] <;> omega) ?_;simp only [if_true,if_false,Bool.false_eq_true,↓reduceIte])
  refine laW ?_
  (refine l_cond T true (by simp [Act.eval] <;> omega) ?_;simp only [if_true,if_false,Bool.false_eq_true,↓reduceIte])
  refine laW ?_
  (refine l_loadH O hh (by simp) rfl (by rfl) hc2 hbH (fun w₁ hc₁=>⟨by go_simp,by simp [listed,go_sem,hc₁];exact seen_cell hq _ _ _⟩) ?_;walk_nrm)
  refine laW ?_
  (refine l_enter T (fn:=Try.f32) (c:=.skip) (g:=32) (xs:=#[.pointer (some (c0 nb 0)),g,.int .i64 a]) (by simp) rfl (by rfl) (fun w=>?_) (fun w=>?_) ?_;(focus go_simp);(focus (simp [go_sem,events_into Try.func32 (by kernel_rfl) (by kernel_rfl)])))
  refine numL_add O hSk (hp w1 G1) hR _ _ (hSk _ _ _ _ _ Try.func51 hS) (by simp [bk,Frame.at]) rfl (fun z s' w'' hP=>?_) (fun ch s' w' hP=>by obtain ⟨_,_,_,h⟩:=hP;cases h)
  obtain ⟨w',v,D,hz⟩:=hP
  cases hz
  rw [bk_finish rfl]
  walk_nrm
  refine laW ?_
  refine l_ret T ?_
  exact l_leave T Try.func51 rfl (resultsC_tmp rfl _) (h1 _ _ _ ⟨w',v,D,rfl⟩)
set_option maxRecDepth 100000 in
set_option maxHeartbeats 4000000 in
theorem actL_swap (hh:Hides (sit s) h (Ho s)) (ok:HidOk (Ho s) w) (hp:∀ w1,Grow (sit s).st (Ho s) (fun _=>False) w w1→CallsL Try.prog L Sk 64 #[g,.int .i64 4] s w1 (fun r s' w'=>r=.inl (.tuple #[])∧R s' w')) (hR:NumOk sit h Ho nb R) :
    CallsL Try.prog L Sk 51 #[.pointer (some (c0 nb 0)),g,actV 4 at_ a b] s w (fun r s' w''=>∃ w' v,NumDone sit Ho nb R v (numNew 4 v a b) s' w' w''∧r=.inl (.int .i64 (numAns 4 v a))):=by
  intro c cs hS hkd hcm h1 _
  have T:=O.toCtl
  have hq:(Try.prog.funcs[51]?).any (·.norace)=false:=by rw [Try.func51];rfl
  rw [enter_bk Try.func51 rfl]
  walk_nrmf Try.f51
  refine laW ?_
  refine l_new O hh (by simp) ok rfl (by rfl) (by kernel_rfl) (fun n=>.pointer (some (c0 n 0))) (c:=#[.int .i64 4,.int .i64 at_,.int .i64 a,.int .i64 b]) (t:=103) (fun v=>by go_simp) (fun w1 hn1 G1 hl1=>?_)
  walk_nrm
  have hbH:¬ Ho s w.heap.size:=fun h=>by have:=ok.lt h;omega
  have hc0:w1.cell? ⟨w.heap.size,0,none⟩=some (.int .i64 4):=cell_of_heap hn1 (j:=0) rfl
  have hc2:w1.cell? ⟨w.heap.size,2,none⟩=some (.int .i64 a):=cell_of_heap hn1 (j:=2) rfl
  have hc3:w1.cell? ⟨w.heap.size,3,none⟩=some (.int .i64 b):=cell_of_heap hn1 (j:=3) rfl
  refine laW ?_
  (refine l_loadH O hh (by simp) rfl (by rfl) hc0 hbH (fun w₁ hc₁=>⟨by go_simp,by simp [listed,go_sem,hc₁];exact seen_cell hq _ _ _⟩) ?_;walk_nrm)
  refine laW ?_
  refine l_block T ?_
  refine laW ?_
  (refine l_cond T false (by simp [Act.eval] <;> omega) ?_;simp only [if_true,if_false,Bool.false_eq_true,↓reduceIte])
  refine laW ?_
  (refine l_cond T false (by simp [Act.eval] <;> omega) ?_;simp only [if_true,if_false,Bool.false_eq_true,↓reduceIte])
  refine laW ?_
  (refine l_cond T false (by simp [Act.eval] <;> omega) ?_;simp only [if_true,if_false,Bool.false_eq_true,↓reduceIte])
  refine laW ?_
  (refine l_cond T true (by simp [Act.eval] <;> omega) ?_;simp only [if_true,if_false,Bool.false_eq_true,↓reduceIte])
  refine laW ?_
  (refine l_loadH O hh (by simp) rfl (by rfl) hc2 hbH (fun w₁ hc₁=>⟨by go_simp,by simp [listed,go_sem,hc₁];exact seen_cell hq _ _ _⟩) ?_;walk_nrm)
  refine laW ?_
  (refine l_enter T (fn:=Try.f86) (c:=.skip) (g:=86) (xs:=#[.pointer (some (c0 nb 0)),g,.int .i64 a]) (by simp) rfl (by rfl) (fun w=>?_) (fun w=>?_) ?_;(focus go_simp);(focus (simp [go_sem,events_into Try.func86 (by kernel_rfl) (by kernel_rfl)])))
  refine numL_swap O hSk (hp w1 G1) hR _ _ (hSk _ _ _ _ _ Try.func51 hS) (by simp [bk,Frame.at]) rfl (fun z s' w'' hP=>?_) (fun ch s' w' hP=>by obtain ⟨_,_,_,h⟩:=hP;cases h)
  obtain ⟨w',v,D,hz⟩:=hP
  cases hz
  rw [bk_finish rfl]
  walk_nrm
  refine laW ?_
  refine l_ret T ?_
  exact l_leave T Try.func51 rfl (resultsC_tmp rfl _) (h1 _ _ _ ⟨w',v,D,rfl⟩)
set_option maxRecDepth 100000 in
set_option maxHeartbeats 4000000 in
theorem actL_and (hh:Hides (sit s) h (Ho s)) (ok:HidOk (Ho s) w) (hp:∀ w1,Grow (sit s).st (Ho s) (fun _=>False) w w1→CallsL Try.prog L Sk 64 #[g,.int .i64 6] s w1 (fun r s' w'=>r=.inl (.tuple #[])∧R s' w')) (hR:NumOk sit h Ho nb R) :
    CallsL Try.prog L Sk 51 #[.pointer (some (c0 nb 0)),g,actV 6 at_ a b] s w (fun r s' w''=>∃ w' v,NumDone sit Ho nb R v (numNew 6 v a b) s' w' w''∧r=.inl (.int .i64 (numAns 6 v a))):=by
  intro c cs hS hkd hcm h1 _
  have T:=O.toCtl
  have hq:(Try.prog.funcs[51]?).any (·.norace)=false:=by rw [Try.func51];rfl
  rw [enter_bk Try.func51 rfl]
  walk_nrmf Try.f51
  refine laW ?_
  refine l_new O hh (by simp) ok rfl (by rfl) (by kernel_rfl) (fun n=>.pointer (some (c0 n 0))) (c:=#[.int .i64 6,.int .i64 at_,.int .i64 a,.int .i64 b]) (t:=103) (fun v=>by go_simp) (fun w1 hn1 G1 hl1=>?_)
  walk_nrm
  have hbH:¬ Ho s w.heap.size:=fun h=>by have:=ok.lt h;omega
  have hc0:w1.cell? ⟨w.heap.size,0,none⟩=some (.int .i64 6):=cell_of_heap hn1 (j:=0) rfl
  have hc2:w1.cell? ⟨w.heap.size,2,none⟩=some (.int .i64 a):=cell_of_heap hn1 (j:=2) rfl
  have hc3:w1.cell? ⟨w.heap.size,3,none⟩=some (.int .i64 b):=cell_of_heap hn1 (j:=3) rfl
  refine laW ?_
  (refine l_loadH O hh (by simp) rfl (by rfl) hc0 hbH (fun w₁ hc₁=>⟨by go_simp,by simp [listed,go_sem,hc₁];exact seen_cell hq _ _ _⟩) ?_;walk_nrm)
  refine laW ?_
  refine l_block T ?_
  refine laW ?_
  (refine l_cond T false (by simp [Act.eval] <;> omega) ?_;simp only [if_true,if_false,Bool.false_eq_true,↓reduceIte])
  refine laW ?_
  (refine l_cond T false (by simp [Act.eval] <;> omega) ?_;simp only [if_true,if_false,Bool.false_eq_true,↓reduceIte])
  refine laW ?_
  (refine l_cond T false (by simp [Act.eval] <;> omega) ?_;simp only [if_true,if_false,Bool.false_eq_true,↓reduceIte])
  refine laW ?_
  (refine l_cond T false (by simp [Act.eval] <;> omega) ?_;simp only [if_true,if_false,Bool.false_eq_true,↓reduceIte])
  refine laW ?_
  (refine l_cond T true (by simp [Act.eval] <;> omega) ?_;simp only [if_true,if_false,Bool.false_eq_true,↓reduceIte])
  refine laW ?_
  (refine l_loadH O hh (by simp) rfl (by rfl) hc2 hbH (fun w₁ hc₁=>⟨by go_simp,by simp [listed,go_sem,hc₁];exact seen_cell hq _ _ _⟩) ?_;walk_nrm)
  refine laW ?_
  (refine l_enter T (fn:=Try.f87) (c:=.skip) (g:=87) (xs:=#[.pointer (some (c0 nb 0)),g,.int .i64 a]) (by simp) rfl (by rfl) (fun w=>?_) (fun w=>?_) ?_;(focus go_simp);(focus (simp [go_sem,events_into Try.func87 (by kernel_rfl) (by kernel_rfl)])))
  refine numL_and O hSk (hp w1 G1) hR _ _ (hSk _ _ _ _ _ Try.func51 hS) (by simp [bk,Frame.at]) rfl (fun z s' w'' hP=>?_) (fun ch s' w' hP=>by obtain ⟨_,_,_,h⟩:=hP;cases h)
  obtain ⟨w',v,D,hz⟩:=hP
  cases hz
  rw [bk_finish rfl]
  walk_nrm
  refine laW ?_
  refine l_ret T ?_
  exact l_leave T Try.func51 rfl (resultsC_tmp rfl _) (h1 _ _ _ ⟨w',v,D,rfl⟩)
set_option maxRecDepth 100000 in
set_option maxHeartbeats 4000000 in
theorem actL_or (hh:Hides (sit s) h (Ho s)) (ok:HidOk (Ho s) w) (hp:∀ w1,Grow (sit s).st (Ho s) (fun _=>False) w w1→CallsL Try.prog L Sk 64 #[g,.int .i64 7] s w1 (fun r s' w'=>r=.inl (.tuple #[])∧R s' w')) (hR:NumOk sit h Ho nb R) :
    CallsL Try.prog L Sk 51 #[.pointer (some (c0 nb 0)),g,actV 7 at_ a b] s w (fun r s' w''=>∃ w' v,NumDone sit Ho nb R v (numNew 7 v a b) s' w' w''∧r=.inl (.int .i64 (numAns 7 v a))):=by
  intro c cs hS hkd hcm h1 _
  have T:=O.toCtl
  have hq:(Try.prog.funcs[51]?).any (·.norace)=false:=by rw [Try.func51];rfl
  rw [enter_bk Try.func51 rfl]
  walk_nrmf Try.f51
  refine laW ?_
  refine l_new O hh (by simp) ok rfl (by rfl) (by kernel_rfl) (fun n=>.pointer (some (c0 n 0))) (c:=#[.int .i64 7,.int .i64 at_,.int .i64 a,.int .i64 b]) (t:=103) (fun v=>by go_simp) (fun w1 hn1 G1 hl1=>?_)
  walk_nrm
  have hbH:¬ Ho s w.heap.size:=fun h=>by have:=ok.lt h;omega
  have hc0:w1.cell? ⟨w.heap.size,0,none⟩=some (.int .i64 7):=cell_of_heap hn1 (j:=0) rfl
  have hc2:w1.cell? ⟨w.heap.size,2,none⟩=some (.int .i64 a):=cell_of_heap hn1 (j:=2) rfl
  have hc3:w1.cell? ⟨w.heap.size,3,none⟩=some (.int .i64 b):=cell_of_heap hn1 (j:=3) rfl
  refine laW ?_
  (refine l_loadH O hh (by simp) rfl (by rfl) hc0 hbH (fun w₁ hc₁=>⟨by go_simp,by simp [listed,go_sem,hc₁];exact seen_cell hq _ _ _⟩) ?_;walk_nrm)
  refine laW ?_
  refine l_block T ?_
  refine laW ?_
  (refine l_cond T false (by simp [Act.eval] <;> omega) ?_;simp only [if_true,if_false,Bool.false_eq_true,↓reduceIte])
  refine laW ?_
  (refine l_cond T false (by simp [Act.eval] <;> omega) ?_;simp only [if_true,if_false,Bool.false_eq_true,↓reduceIte])
  refine laW ?_
  (refine l_cond T false (by simp [Act.eval] <;> omega) ?_;simp only [if_true,if_false,Bool.false_eq_true,↓reduceIte])
  refine laW ?_
  (refine l_cond T false (by simp [Act.eval] <;> omega) ?_;simp only [if_true,if_false,Bool.false_eq_true,↓reduceIte])
  refine laW ?_
  (refine l_cond T false (by simp [Act.eval] <;> omega) ?_;simp only [if_true,if_false,Bool.false_eq_true,↓reduceIte])
  refine laW ?_
  (refine l_cond T true (by simp [Act.eval] <;> omega) ?_;simp only [if_true,if_false,Bool.false_eq_true,↓reduceIte])
  refine laW ?_
  (refine l_loadH O hh (by simp) rfl (by rfl) hc2 hbH (fun w₁ hc₁=>⟨by go_simp,by simp [listed,go_sem,hc₁];exact seen_cell hq _ _ _⟩) ?_;walk_nrm)
  refine laW ?_
  (refine l_enter T (fn:=Try.f88) (c:=.skip) (g:=88) (xs:=#[.pointer (some (c0 nb 0)),g,.int .i64 a]) (by simp) rfl (by rfl) (fun w=>?_) (fun w=>?_) ?_;(focus go_simp);(focus (simp [go_sem,events_into Try.func88 (by kernel_rfl) (by kernel_rfl)])))
  refine numL_or O hSk (hp w1 G1) hR _ _ (hSk _ _ _ _ _ Try.func51 hS) (by simp [bk,Frame.at]) rfl (fun z s' w'' hP=>?_) (fun ch s' w' hP=>by obtain ⟨_,_,_,h⟩:=hP;cases h)
  obtain ⟨w',v,D,hz⟩:=hP
  cases hz
  rw [bk_finish rfl]
  walk_nrm
  refine laW ?_
  refine l_ret T ?_
  exact l_leave T Try.func51 rfl (resultsC_tmp rfl _) (h1 _ _ _ ⟨w',v,D,rfl⟩)
set_option maxRecDepth 100000 in
set_option maxHeartbeats 4000000 in
theorem actL_cas (hh:Hides (sit s) h (Ho s)) (ok:HidOk (Ho s) w) (hp:∀ w1,Grow (sit s).st (Ho s) (fun _=>False) w w1→CallsL Try.prog L Sk 64 #[g,.int .i64 5] s w1 (fun r s' w'=>r=.inl (.tuple #[])∧R s' w')) (hR:NumOk sit h Ho nb R) :
    CallsL Try.prog L Sk 51 #[.pointer (some (c0 nb 0)),g,actV 5 at_ a b] s w (fun r s' w''=>∃ w' v,NumDone sit Ho nb R v (numNew 5 v a b) s' w' w''∧r=.inl (.int .i64 (numAns 5 v a))):=by
  intro c cs hS hkd hcm h1 _
  have T:=O.toCtl
  have hq:(Try.prog.funcs[51]?).any (·.norace)=false:=by rw [Try.func51];rfl
  rw [enter_bk Try.func51 rfl]
  walk_nrmf Try.f51
  refine laW ?_
  refine l_new O hh (by simp) ok rfl (by rfl) (by kernel_rfl) (fun n=>.pointer (some (c0 n 0))) (c:=#[.int .i64 5,.int .i64 at_,.int .i64 a,.int .i64 b]) (t:=103) (fun v=>by go_simp) (fun w1 hn1 G1 hl1=>?_)
  walk_nrm
  have hbH:¬ Ho s w.heap.size:=fun h=>by have:=ok.lt h;omega
  have hc0:w1.cell? ⟨w.heap.size,0,none⟩=some (.int .i64 5):=cell_of_heap hn1 (j:=0) rfl
  have hc2:w1.cell? ⟨w.heap.size,2,none⟩=some (.int .i64 a):=cell_of_heap hn1 (j:=2) rfl
  have hc3:w1.cell? ⟨w.heap.size,3,none⟩=some (.int .i64 b):=cell_of_heap hn1 (j:=3) rfl
  refine laW ?_
  (refine l_loadH O hh (by simp) rfl (by rfl) hc0 hbH (fun w₁ hc₁=>⟨by go_simp,by simp [listed,go_sem,hc₁];exact seen_cell hq _ _ _⟩) ?_;walk_nrm)
  refine laW ?_
  refine l_block T ?_
  refine laW ?_
  (refine l_cond T false (by simp [Act.eval] <;> omega) ?_;simp only [if_true,if_false,Bool.false_eq_true,↓reduceIte])
  refine laW ?_
  (refine l_cond T false (by simp [Act.eval] <;> omega) ?_;simp only [if_true,if_false,Bool.false_eq_true,↓reduceIte])
  refine laW ?_
  (refine l_cond T false (by simp [Act.eval] <;> omega) ?_;simp only [if_true,if_false,Bool.false_eq_true,↓reduceIte])
  refine laW ?_
  (refine l_cond T false (by simp [Act.eval] <;> omega) ?_;simp only [if_true,if_false,Bool.false_eq_true,↓reduceIte])
  refine laW ?_
  (refine l_cond T false (by simp [Act.eval] <;> omega) ?_;simp only [if_true,if_false,Bool.false_eq_true,↓reduceIte])
  refine laW ?_
  (refine l_cond T false (by simp [Act.eval] <;> omega) ?_;simp only [if_true,if_false,Bool.false_eq_true,↓reduceIte])
  refine laW ?_
  (refine l_cond T true (by simp [Act.eval] <;> omega) ?_;simp only [if_true,if_false,Bool.false_eq_true,↓reduceIte])
  refine laW ?_
  (refine l_loadH O hh (by simp) rfl (by rfl) hc2 hbH (fun w₁ hc₁=>⟨by go_simp,by simp [listed,go_sem,hc₁];exact seen_cell hq _ _ _⟩) ?_;walk_nrm)
  refine laW ?_
  (refine l_loadH O hh (by simp) rfl (by rfl) hc3 hbH (fun w₁ hc₁=>⟨by go_simp,by simp [listed,go_sem,hc₁];exact seen_cell hq _ _ _⟩) ?_;walk_nrm)
  refine laW ?_
  (refine l_enter T (fn:=Try.f89) (c:=.skip) (g:=89) (xs:=#[.pointer (some (c0 nb 0)),g,.int .i64 a,.int .i64 b]) (by simp) rfl (by rfl) (fun w=>?_) (fun w=>?_) ?_;(focus go_simp);(focus (simp [go_sem,events_into Try.func89 (by kernel_rfl) (by kernel_rfl)])))
  refine numL_cas O hSk (hp w1 G1) hR _ _ (hSk _ _ _ _ _ Try.func51 hS) (by simp [bk,Frame.at]) rfl (fun z s' w'' hP=>?_) (fun ch s' w' hP=>by obtain ⟨_,_,_,h⟩:=hP;cases h)
  obtain ⟨w',v,D,hz⟩:=hP
  cases hz
  rw [bk_finish rfl]
  walk_nrm
  refine laW ?_
  cases hv:(v == a) with
  | true =>
    try simp only [hv]
    (refine l_cond T true (by simp [Act.eval] <;> omega) ?_;simp only [if_true,if_false,Bool.false_eq_true,↓reduceIte])
    refine laW ?_
    refine l_ret T ?_
    exact l_leave T Try.func51 rfl (resultsC_tmp rfl _) (h1 _ _ _ ⟨w',v,D,by simp [numAns,hv,bitOf]⟩)
  | false =>
    try simp only [hv]
    (refine l_cond T false (by simp [Act.eval] <;> omega) ?_;simp only [if_true,if_false,Bool.false_eq_true,↓reduceIte])
    refine laW ?_
    refine l_inBlock T ?_
    refine laW ?_
    refine l_ret T ?_
    exact l_leave T Try.func51 rfl (resultsC_tmp rfl _) (h1 _ _ _ ⟨w',v,D,by simp [numAns,hv,bitOf]⟩)
theorem actL {kd:Int} (hkd:1≤kd∧kd≤7) (hh:Hides (sit s) h (Ho s)) (ok:HidOk (Ho s) w) (hp:∀ w1,Grow (sit s).st (Ho s) (fun _=>False) w w1→CallsL Try.prog L Sk 64 #[g,.int .i64 kd] s w1 (fun r s' w'=>r=.inl (.tuple #[])∧R s' w')) (hR:NumOk sit h Ho nb R) :
    CallsL Try.prog L Sk 51 #[.pointer (some (c0 nb 0)),g,actV kd at_ a b] s w (fun r s' w''=>∃ w' v,NumDone sit Ho nb R v (numNew kd v a b) s' w' w''∧r=.inl (.int .i64 (numAns kd v a))):=by
  obtain rfl | rfl | rfl | rfl | rfl | rfl | rfl:kd=1∨kd=2∨kd=3∨kd=4∨kd=5∨kd=6∨kd=7:=by omega
  · exact actL_load O hSk hh ok hp hR
  · exact actL_store O hSk hh ok hp hR
  · exact actL_add O hSk hh ok hp hR
  · exact actL_swap O hSk hh ok hp hR
  · exact actL_cas O hSk hh ok hp hR
  · exact actL_and O hSk hh ok hp hR
  · exact actL_or O hSk hh ok hp hR
end
end Go.Proofs.Ytndppafplgilbaa
namespace Go.Proofs.Ytndppafplgilbaa
open Go Go.Conc Go.RowKit
open Go.ConcN (sumTo upd sumTo_upd upd_ne upd_same)
structure PG where
  cs:List Int
  pos:Nat→Option (List A4)
  ans:Nat→List Int
  av:Nat→Value
structure PL where
  scripts:List (List A4)
  m:Nat
  nb:Nat→Nat
  ansB:Nat
  fix:Nat→Prop
  w0:World
abbrev PL.n (l:PL):Nat:=l.scripts.length
def PL.script (l:PL) (i:Nat):List A4:=l.scripts.getD i []
def avArr (n:Nat) (av:Nat→Value):Array Value:=((List.range n).map av).toArray
theorem avArr_at {n i:Nat} {av:Nat→Value} (h:i < n):(avArr n av)[i]?=some (av i):=by simp [avArr,h]
theorem avArr_set {n i:Nat} {av:Nat→Value} (h:i < n) (v:Value):(avArr n av).setIfInBounds i v=avArr n (upd av i v):=by
  apply Array.ext_getElem?
  intro j
  rw [Array.getElem?_setIfInBounds]
  by_cases hj:j < n
  · by_cases e:i=j
    · subst e;simp [avArr,hj,upd]
    · rw [if_neg e,avArr_at hj,avArr_at hj,upd_ne _ _ fun x=>e x.symm]
  · have e:i≠j:=by omega
    rw [if_neg e]
    simp [avArr,hj]
theorem avArr_size (n:Nat) (av:Nat→Value):(avArr n av).size=n:=by simp [avArr]
def leftLen:Option (List A4)→Nat
  | none=>1000
  | some r=>r.length
structure PlayM (l:PL) (Γ:PG) (w:World):Prop where
  fixed:∀ x,l.fix x→w.heap[x]?=l.w0.heap[x]?
  nums:∀ j,j < l.m→NumC (l.nb j) (Γ.cs.getD j 0) w
  len:Γ.cs.length=l.m
  arr:w.heap[l.ansB]?=some (.cells (avArr l.n Γ.av) 22 (0,0))
  rows:∀ i,i < l.n→w.ownsRow 0 3 1 (Γ.av i) (Γ.ans i).length ((Γ.ans i).map (Value.int .i64))
  sep:∀ i,i < l.n→∀ g,(Γ.av i).ownBlock=some g→¬ l.fix g∧g≠l.ansB∧(∀ j,j < l.m→g≠l.nb j)∧∀ i',i' < l.n→i'≠i→(Γ.av i').ownBlock≠some g
  few:∀ i,i < l.n→(Γ.ans i).length + leftLen (Γ.pos i)≤1000
def playFoot (l:PL) (Γ:PG) (k:Nat):Prop:=l.fix k∨k=l.ansB∨(∃ j,j < l.m∧k=l.nb j)∨∃ i,i < l.n∧(Γ.av i).ownBlock=some k
def playStep (Γ:PG) (i:Nat) (a:A4) (r:List A4) (v:Value):PG :=
  { cs:=Γ.cs.set a.at_.toNat (numNew a.k (Γ.cs.getD a.at_.toNat 0) a.a a.b),pos:=upd Γ.pos i (some r),ans:=upd Γ.ans i (Γ.ans i ++ [numAns a.k (Γ.cs.getD a.at_.toNat 0) a.a]),av:=upd Γ.av i v }
def playNext (l:PL) (i:Nat) (Γ Γ':PG):Prop:=match Γ.pos i with
  | none=>Γ'={ Γ with pos:=upd Γ.pos i (some (l.script i)) }
  | some []=>False
  | some (a :: r)=>∃ v,Γ'=playStep Γ i a r v
def playStand:Option (List A4) × Value→Option Int
  | (some (a :: _),_)=>some a.k
  | _=>none
structure PL.Ok (l:PL):Prop where
  low:∀ x,l.fix x→x < l.w0.heap.size
  ans:¬ l.fix l.ansB
  num:∀ j,j < l.m→¬ l.fix (l.nb j)∧l.nb j≠l.ansB∧∀ j',j' < l.m→l.nb j'=l.nb j→j'=j
  len:∀ s∈l.scripts,s.length≤1000
  acts:∀ s∈l.scripts,∀ a∈s,(1≤a.k∧a.k≤7)∧0≤a.at_∧a.at_ < l.m
theorem PlayM.stable {l:PL} {Γ:PG} {w w':World} (M:PlayM l Γ w) (h:∀ k,playFoot l Γ k→w'.heap[k]?=w.heap[k]?):PlayM l Γ w' :=
  ⟨fun x hx=>(h x (.inl hx)).trans (M.fixed x hx),fun j hj=>(h _ (.inr (.inr (.inl ⟨j,hj,rfl⟩)))).trans (M.nums j hj),M.len,(h _ (.inr (.inl rfl))).trans M.arr,fun i hi=>ownsRow_of (fun g hg=>h g (.inr (.inr (.inr ⟨i,hi,hg⟩)))) (M.rows i hi),M.sep,M.few⟩
def PlayCli (l:PL) (ok:l.Ok):Cli where
  G:=PG
  X:=Option (List A4) × Value
  own i Γ:=(Γ.pos i,Γ.av i)
  next:=playNext l
  stand:=playStand
  pan _:=false
  foot:=playFoot l
  M:=PlayM l
  low Γ w M k hk:=by
    rcases hk with h | rfl | ⟨j,hj,rfl⟩ | ⟨i,hi,h⟩
    · have h1:=ok.low k h
      have h2:=M.fixed k h
      rw [Array.getElem?_eq_getElem h1] at h2
      exact (Array.getElem?_eq_some_iff.1 h2).1
    · exact (Array.getElem?_eq_some_iff.1 M.arr).1
    · exact (Array.getElem?_eq_some_iff.1 (M.nums j hj)).1
    · exact ownsRow_lt (M.rows i hi) k h
  stable Γ w w' M h:=M.stable h
  other i j Γ Γ' hij nx:=by
    unfold playNext at nx
    split at nx
    · subst nx;simp [upd_ne _ _ hij]
    · exact nx.elim
    · obtain ⟨v,rfl⟩:=nx
      simp [playStep,upd_ne _ _ hij]
section
variable {l:PL} {Γ:PG} {w w':World}
theorem cs_getD {cs:List Int} {j k:Nat} {v:Int} (hk:k < cs.length):(cs.set k v).getD j 0=if j=k then v else cs.getD j 0:=by
  simp only [List.getD_eq_getElem?_getD,List.getElem?_set]
  by_cases e:k=j
  · subst e;simp [hk]
  · rw [if_neg e,if_neg fun x=>e x.symm]
theorem PlayM.step (ok:l.Ok) {st:Addr} {H:Nat→Prop} (M:PlayM l Γ w) {i:Nat} (hi:i < l.n) {a:A4} {r:List A4} (hpos:Γ.pos i=some (a :: r)) {at_:Nat} (ha:a.at_=at_) (hat:at_ < l.m) {v:Value}
    (G:Grow st H (fun k=>k=l.nb at_∨(Γ.av i).ownBlock=some k∨k=l.ansB) w w') (hH:∀ k,playFoot l Γ k→¬ H k)
    (hnum:NumC (l.nb at_) (numNew a.k (Γ.cs.getD at_ 0) a.a a.b) w') (harr:w'.heap[l.ansB]?=some (.cells ((avArr l.n Γ.av).setIfInBounds i v) 22 (0,0)))
    (hrow:w'.ownsRow 0 3 1 v ((Γ.ans i).length + 1) ((Γ.ans i ++ [numAns a.k (Γ.cs.getD at_ 0) a.a]).map (Value.int .i64))) (hv:∀ g,v.ownBlock=some g→(Γ.av i).ownBlock=some g∨w.heap.size≤g):PlayM l (playStep Γ i a r v) w':=by
  have low:∀ k,playFoot l Γ k→k < w.heap.size:=(PlayCli l ok).low Γ w M
  have e0:a.at_.toNat=at_:=by rw [ha];rfl
  have kept:∀ k,playFoot l Γ k→k≠l.nb at_→(Γ.av i).ownBlock≠some k→k≠l.ansB→w'.heap[k]?=w.heap[k]?:=fun k h1 h2 h3 h4=>G.low k (low k h1) (hH k h1) fun h=>by
    rcases h with h | h | h
    · exact h2 h
    · exact h3 h
    · exact h4 h
  have av:∀ i',i'≠i→upd Γ.av i v i'=Γ.av i':=fun i' h=>upd_ne _ _ h
  refine ⟨fun x hx=>?_,fun j hj=>?_,by simp [playStep,M.len],?_,fun i' hi'=>?_,fun i' hi' g hg=>?_,fun i' hi'=>?_⟩
  · refine (kept x (.inl hx) (fun e=>(ok.num _ hat).1 (e ▸ hx)) (fun e=>(M.sep i hi x e).1 hx) (fun e=>ok.ans (e ▸ hx))).trans (M.fixed x hx)
  · show NumC (l.nb j) ((Γ.cs.set a.at_.toNat _).getD j 0) w'
    rw [e0,cs_getD (by rw [M.len];exact hat)]
    by_cases e:j=at_
    · subst e;rw [if_pos rfl];exact hnum
    · rw [if_neg e]
      exact (kept _ (.inr (.inr (.inl ⟨j,hj,rfl⟩))) (fun e'=>e ((ok.num _ hat).2.2 j hj e')) (fun e'=>(M.sep i hi _ e').2.2.1 j hj rfl) (ok.num j hj).2.1).trans (M.nums j hj)
  · show w'.heap[l.ansB]?=some (.cells (avArr l.n (upd Γ.av i v)) 22 (0,0))
    rw [← avArr_set hi];exact harr
  · show w'.ownsRow 0 3 1 (upd Γ.av i v i') (upd Γ.ans i _ i').length ((upd Γ.ans i _ i').map (Value.int .i64))
    by_cases e:i'=i
    · subst e
      rw [upd_same,upd_same,e0]
      simpa using hrow
    · rw [upd_ne _ _ e,upd_ne _ _ e]
      refine ownsRow_of (fun g hg=>kept g (.inr (.inr (.inr ⟨i',hi',hg⟩))) ((M.sep i' hi' g hg).2.2.1 _ hat) (fun e'=>(M.sep i' hi' g hg).2.2.2 i hi (fun x=>e x.symm) e') (M.sep i' hi' g hg).2.1) (M.rows i' hi')
  · have hg:(upd Γ.av i v i').ownBlock=some g:=hg
    have new:w.heap.size≤g→¬ playFoot l Γ g:=fun h hf=>by have:=low g hf;omega
    by_cases e:i'=i
    · subst e
      rw [upd_same] at hg
      rcases hv g hg with h | h
      · obtain ⟨h1,h2,h3,h4⟩:=M.sep i' hi g h
        exact ⟨h1,h2,h3,fun i2 hi2 hne=>by show (upd Γ.av i' v i2).ownBlock≠_;rw [upd_ne _ _ hne];exact h4 i2 hi2 hne⟩
      · refine ⟨fun hx=>new h (.inl hx),fun hx=>new h (.inr (.inl hx)),fun j hj hx=>new h (.inr (.inr (.inl ⟨j,hj,hx⟩))),fun i2 hi2 hne hx=>?_⟩
        have hx:(upd Γ.av i' v i2).ownBlock=some g:=hx
        rw [upd_ne _ _ hne] at hx
        exact new h (.inr (.inr (.inr ⟨i2,hi2,hx⟩)))
    · rw [upd_ne _ _ e] at hg
      have hg1:=hg
      obtain ⟨h1,h2,h3,h4⟩:=M.sep i' hi' g hg
      refine ⟨h1,h2,h3,fun i2 hi2 hne hx=>?_⟩
      have hx:(upd Γ.av i v i2).ownBlock=some g:=hx
      by_cases e2:i2=i
      · subst e2
        rw [upd_same] at hx
        rcases hv g hx with h | h
        · exact h4 i2 hi2 (fun x=>e x.symm) h
        · exact new h (.inr (.inr (.inr ⟨i',hi',hg1⟩)))
      · rw [upd_ne _ _ e2] at hx
        exact h4 i2 hi2 hne hx
  · show (upd Γ.ans i _ i').length + leftLen (upd Γ.pos i _ i')≤1000
    by_cases e:i'=i
    · subst e
      have:=M.few i' hi'
      rw [hpos] at this
      rw [upd_same,upd_same]
      simp [leftLen] at this ⊢
      omega
    · rw [upd_ne _ _ e,upd_ne _ _ e];exact M.few i' hi'
theorem PlayM.begin (ok:l.Ok) (M:PlayM l Γ w) {i:Nat} (hi:i < l.n) (hpos:Γ.pos i=none):PlayM l { Γ with pos:=upd Γ.pos i (some (l.script i)) } w:=by
  refine ⟨M.fixed,M.nums,M.len,M.arr,M.rows,M.sep,fun i' hi'=>?_⟩
  show (Γ.ans i').length + leftLen (upd Γ.pos i _ i')≤1000
  by_cases e:i'=i
  · subst e
    have:=M.few i' hi'
    rw [hpos] at this
    rw [upd_same]
    have h2:(l.script i').length≤1000:=by
      refine ok.len _ ?_
      unfold PL.script
      rw [List.getD_eq_getElem?_getD,List.getElem?_eq_getElem hi']
      exact List.getElem_mem hi'
    have h3:(Γ.ans i').length + 1000≤1000:=this
    show (Γ.ans i').length + (l.script i').length≤1000
    omega
  · rw [upd_ne _ _ e];exact M.few i' hi'
theorem playStep_foot {i:Nat} {a:A4} {r:List A4} {v:Value} {B:Nat} (hv:∀ g,v.ownBlock=some g→(Γ.av i).ownBlock=some g∨B≤g) (hi:i < l.n):∀ x,playFoot l (playStep Γ i a r v) x→playFoot l Γ x∨B≤x:=fun x hx=>by
  rcases hx with h | h | h | ⟨i',hi',h⟩
  · exact .inl (.inl h)
  · exact .inl (.inr (.inl h))
  · exact .inl (.inr (.inr (.inl h)))
  · have h:(upd Γ.av i v i').ownBlock=some x:=h
    by_cases e:i'=i
    · subst e
      rw [upd_same] at h
      exact (hv x h).imp (fun h=>.inr (.inr (.inr ⟨i',hi,h⟩))) id
    · rw [upd_ne _ _ e] at h
      exact .inl (.inr (.inr (.inr ⟨i',hi',h⟩)))
end
end Go.Proofs.Ytndppafplgilbaa
namespace Go.Proofs.Ytndppafplgilbaa
open Go Go.Conc
def dynBF:List FuncId:=[12,13,15,16,17,18,19,20,21,22,27,28,33,34,35,36,37,38,39,42,43,44,45,66,67,68,77]
def dynBX:List FuncId:=[]
def dynBG:List (FuncId × List Nat):=[]
def dynB:Dyn:=dynOf (dynBF ++ dynBX) dynBG []
theorem closedB:Closed Try.prog dynB:=Closed.of (by kernel_rfl) (fun f hf=>by cases hf) (fun e he=>by cases he)
end Go.Proofs.Ytndppafplgilbaa
