/-
  larchlaw04.BatonThins returns true for every input. No condition. (Part 26 of 49; joined by program.)
-/
import Derived.Test.YtndppafplgilbaaL19
import Derived.Test.YtndppafplgilbaaL25
import Derived.WideLaws
import Derived.Test.YtndppafplgilbaaL17
import Derived.Test.YtndppafplgilbaaL16
set_option linter.unusedVariables false
set_option linter.unusedSimpArgs false
set_option linter.unusedSectionVars false
set_option maxRecDepth 100000
namespace Go.Proofs.Ytndppafplgilbaa
open Go Go.Conc Go.RowKit
open Go.ConcN (sumTo upd sumTo_upd upd_ne upd_same)
def footEnd (ts:Array Value) (ds:List Deferred) (todo:List Item) (m:FrameMode):Frame:={ (bk 92 .deferred).at ⟨ts,ds⟩ todo with mode:=m }
def bornF (P:Program):Frame:={ (default:Frame) with fn:=P.funcs.size,defers:=[],mode:=.panicking [goexitEntry] }
section
variable {gb:Nat}
theorem born_out {w:World}:WayOut Try.prog 0 (G (bornF Try.prog) []) w:=by
  refine WayOut.mark (g':={ G (bornF Try.prog) [] with status:=.finished }) (es:=#[]) rfl (fun e he=>by simp at he) (fun w=>?_) (WayOut.done rfl)
  have e0:(default:Frame).todo=[]:=rfl
  simp [G,bornF,stepG,unwind,Frame.catches,goexitEntry,GStep.after,seen_none,e0]
theorem foot_out {ts:Array Value} {todo:List Item} {w:World}:WayOut Try.prog 0 (G (footEnd ts [] todo .returning) [bornF Try.prog]) w:=by
  refine WayOut.mark (g':=G (bornF Try.prog) []) (es:=#[]) rfl (fun e he=>by simp at he) (fun w=>?_) born_out
  simp [G,footEnd,bornF,goexitEntry,stepG,unwind,doReturn,Frame.at,bk,base,Try.func92,results_none (fn:=Try.f92) rfl,events_results_none (fn:=Try.f92) rfl,GStep.after,seen_none]
theorem done_way {ts:Array Value} {todo:List Item} {m:FrameMode} {w:World} (hm:m=.returning∨∃ v,m=.panicking [{ v,recovered:=true }]) (a:Act) (ha:a.defers=[]) :
    WayDone Try.prog (c0 gb 1) 0 (G ((bk 125 .deferred).at a []) [footEnd ts [dcall 124 #[.pointer (some (c0 gb 1))]] todo m,bornF Try.prog]) w:=by
  have T:=wayDone_ctl (P:=Try.prog) (st:=c0 gb 1)
  refine l_fin T ?_
  refine l_leaveD T Try.func125 ha (resultsC_none rfl _) hm ?_
  refine l_unwind T (.inl rfl) (a:=⟨ts,[dcall 124 #[.pointer (some (c0 gb 1))]]⟩) (g:=124) (cap:=#[]) (args:=#[.pointer (some (c0 gb 1))]) rfl Try.func124 (by kernel_rfl) rfl ?_
  walk_nrmf Try.f124
  refine laW ?_
  refine l_enter T (by simp) (fn:=Try.f91) (c:=.skip) rfl (by rfl) (fun w=>run_call_body rfl Try.func91 (by kernel_rfl) (by kernel_rfl)) (fun w=>events_call_body rfl Try.func91 (by kernel_rfl) (by kernel_rfl) _) ?_
  walk_nrm
  refine add_done fun v=>?_
  clear T
  have T:=wayOut_ctl (P:=Try.prog)
  rw [bk_finish rfl]
  walk_nrm
  refine laW ?_
  refine l_fin T ?_
  exact l_leaveD T Try.func124 rfl (resultsC_none rfl _) (.inl rfl) foot_out
variable {C:Cli} {n0 i:Nat} {k:Wk} {Post:Value→World→Prop} {Kt:Gst C→Prop}
def footDs (fb gb:Nat):List Deferred:=[{ target:=.fn (.func 125) #[.pointer (some (c0 fb 0))],args:=#[] },dcall 124 #[.pointer (some (c0 gb 1))]]
theorem foot_ret {fb:Nat} {gh:Gst C} {Γ':C.G} {w:World} (E:Ending C n0 gb i k fb gh Γ' w) {kd:Int} {ov pn:Bool} (hwk:WkAt wkT k kd gh.stn ov pn w) (hK:Kt gh→KF C gb i k Try.prog Post gh Γ' pn) {ts:Array Value} {todo:List Item} :
    LK C n0 i k Try.prog Post Kt gh (G (footEnd ts (footDs fb gb) todo .returning) [bornF Try.prog]) w:=by
  have O:=ownK C n0 i k Try.prog Post Kt
  have T:=O.toCtl
  refine l_unwind T (.inl rfl) (a:=⟨ts,footDs fb gb⟩) rfl Try.func125 (by kernel_rfl) rfl ?_
  walk_nrmf Try.f125
  refine l_seq T ?_
  refine l_seq T ?_
  (refine l_region T ?_;simp only [List.size_toArray,List.length_cons,List.length_nil,Nat.reduceAdd,Nat.zero_add,List.range,List.range.loop])
  refine l_recover_nil T rfl (by rfl) rfl rfl ?_
  walk_nrm
  refine laW ?_
  (refine l_cond T false rfl ?_;simp only [if_true,if_false,Bool.false_eq_true,↓reduceIte])
  refine l_skip T ?_
  exact tail_send E hwk hK fun a ha=>done_way (.inl rfl) a ha
set_option maxHeartbeats 1000000 in
theorem foot_pan {fb:Nat} {gh:Gst C} {Γ':C.G} {w:World} (E:Ending C n0 gb i k fb gh Γ' w) {kd:Int} {ov pn b:Bool} {t:TypeId} {x:Value} (hta:TA Try.prog (.iface t x) (.agg #[]) b) (hwk:WkAt wkT k kd gh.stn ov pn w) (hK:Kt gh→KF C gb i k Try.prog Post gh Γ' (!b)) {ts:Array Value} {todo:List Item} :
    LK C n0 i k Try.prog Post Kt gh (G (footEnd ts (footDs fb gb) todo (.panicking [{ v:=.iface t x,recovered:=false }])) [bornF Try.prog]) w:=by
  have O:=ownK C n0 i k Try.prog Post Kt
  have T:=O.toCtl
  have hq:(Try.prog.funcs[125]?).any (·.norace)=false:=by rw [Try.func125];rfl
  refine l_unwind T (.inr ⟨_,rfl⟩) (a:=⟨ts,footDs fb gb⟩) rfl Try.func125 (by kernel_rfl) rfl ?_
  walk_nrmf Try.f125
  refine l_seq T ?_
  refine l_seq T ?_
  (refine l_region T ?_;simp only [List.size_toArray,List.length_cons,List.length_nil,Nat.reduceAdd,Nat.zero_add,List.range,List.range.loop])
  refine l_recover T rfl (by rfl) rfl rfl ?_
  walk_nrm
  refine laW ?_
  (refine l_cond T true rfl ?_;simp only [if_true,if_false,Bool.false_eq_true,↓reduceIte])
  refine l_seq T ?_
  (refine l_region T ?_;simp only [List.size_toArray,List.length_cons,List.length_nil,Nat.reduceAdd,Nat.zero_add,List.range,List.range.loop])
  ((co_applyP (l_val T (by simp) rfl (by rfl) (fun w=>run_eq_of ?_) (fun w=>?_) ?_);rotate_left;(focus (intro K hK;go_simp;exact hK));(focus (solve | simp [go_sem])));walk_nrm)
  refine l_val T (v:=.tuple #[.agg #[],.bool b]) (by simp) rfl (by rfl) (fun w=>(hta _ w rfl).1) (fun w=>(hta _ w rfl).2) ?_
  walk_nrm
  refine laW ?_
  refine l_mask O (F:=fun _=>false) (fun f h=>by cases h) (hidesC E.at_ _) (by simp) E.did.hidOk rfl (by rfl) (by kernel_rfl) (R:=fun v x v'=>(∃ p,x=.pointer (some p))∧∀ y,y < v.heap.size→v'.heap[y]?=v.heap[y]?) (fun v M=>?_) (fun v x v' w' M hR A=>?_)
  · refine ⟨.pointer (some ⟨v.heap.size,0,none⟩),v.alloc (.cells #[] 204),by go_simp,⟨_,rfl⟩,fun y hy=>?_⟩
    show (v.heap.push _)[y]?=_
    rw [Array.getElem?_push_lt hy,Array.getElem?_eq_getElem hy]
  obtain ⟨⟨p,rfl⟩,hnew⟩:=hR
  have A':Alone (c0 gb 1) gh.gm.H w v' w':=by rw [← E.hgb];exact A
  obtain ⟨E',hblk⟩:=E.alone M A' hnew
  have hwk':WkAt wkT k kd gh.stn ov pn w':=hblk.trans hwk
  walk_nrm
  refine l_none O (by simp) rfl (by rfl) (fun w=>by go_simp) (fun w=>by simp [go_sem]) ?_
  walk_nrm
  refine laW ?_
  have hfgb:fb≠gh.gm.gb:=fun e=>E.boxH (.inl e)
  have hbg:k.blk≠gh.gm.gb:=(E.wf.blk _ (Gm.at E.at_)).1
  have hns:¬ ShunOf (gh.gm.gb :: gh.gm.old) (.cell (c0 fb 0)):=fun h=>E.boxH (shun_H h)
  have hbox:w'.cell? (c0 fb 0)=some (.pointer (some (c0 k.blk 0))):=cell_of (show w'.heap[(c0 fb 0).block]?=_ from E'.box) rfl
  (refine l_load O (by simp) rfl (by rfl) hbox (.inl hfgb) hns (fun w₁ hc₁=>⟨by go_simp,by simp [listed,go_sem,hc₁];exact seen_cell hq _ _ _⟩) ?_;walk_nrm)
  refine laW ?_
  refine l_store O (by simp) rfl (by rfl) (p:=c0 k.blk 5) (x:=.bool pn) (y:=.bool (!b)) (hwk'.cell 5) (hwk'.frozen 5) (.inl hbg) (E.wf.noShun (Gm.at E.at_) 5) (fun g _ _=>sitC_S (by omega)) (fun w h=>Gm.K_own E.wf E.at_ (by omega) h) (fun g c h=>sitC_ch E.wf E.at_ h) (fun w₁ hc₁ hf₁=>⟨?_,?_⟩) ?_
  · go_simp
  · simp [listed,go_sem,hc₁,hf₁]
    rw [events_store Try.prog w₁ #[] _ (.bool (!b)) .plain rfl]
    simp only [storedEv,show w₁.cell? ⟨k.blk,5,none⟩=some (.bool pn) from hc₁,show w₁.frozen? ⟨k.blk,5,none⟩=false from hf₁]
    exact seen_cell hq _ _ _
  walk_nrm
  refine l_end T ?_
  have hkH:gh.gm.H k.blk:=.inr (.inr ⟨_,Gm.at E.at_,.inl rfl⟩)
  have hfH:=E'.did.footH E.H_low E.H_foot
  have hne:∀ x,x≠k.blk→(w'.setCell (c0 k.blk 5) (.bool (!b))).heap[x]?=w'.heap[x]?:=fun x hx=>setCell_ne w' (c0 k.blk 5) _ hx
  obtain ⟨n,hn⟩:=E'.chB
  have hself:=E.wf.self _ (Gm.at E.at_)
  exact tail_send (E:=⟨E.at_,E.hn0,E.hgb,E.wf,E'.did.store hkH E.kp_H hfH 5 _,⟨n,(hne _ (fun e=>hself.2.1 e.symm)).trans hn⟩,(hne fb (fun e=>E.boxH (by rw [e];exact hkH))).trans E'.box,E.boxH,E.kp_low,E.kp_H,E.H_low,E.H_foot⟩) hwk'.panics hK fun a ha=>done_way (.inr ⟨_,rfl⟩) a ha
end
end Go.Proofs.Ytndppafplgilbaa
namespace Go.Proofs.Ytndppafplgilbaa
open Go Go.Conc Go.RowKit
open Go.ConcN (sumTo upd sumTo_upd upd_ne upd_same)
def footRun (ts:Array Value) (ds:List Deferred) (todo:List Item):Frame:=(bk 92 .deferred).at ⟨ts,ds⟩ todo
def SkF (fb gb:Nat) (cs:List Frame):Prop:=∃ bs ts todo,Bare Try.prog bs∧cs=bs ++ [footRun ts (footDs fb gb) todo,bornF Try.prog]
def stoppedV:Value:=.iface 204 (.agg #[])
theorem assert_run (v:Value) (w:World):(Instr.typeAssert (.iface 204 v) 20 204 true).run Try.prog w=.ok (.tuple #[v,.bool true]) w:=by kernel_rfl
theorem assert_events (v:Value) (w:World):(Instr.typeAssert (.iface 204 v) 20 204 true).events Try.prog w #[]=#[]:=by kernel_rfl
theorem mkI_events (v:Value) (w:World):(Instr.makeInterface 204 v).events Try.prog w #[]=#[]:=by kernel_rfl
theorem panic_run (w:World):(Instr.panic stoppedV).run Try.prog w=.halt (.panic stoppedV) w:=by kernel_rfl
theorem panic_events (w:World):(Instr.panic stoppedV).events Try.prog w #[]=#[]:=by kernel_rfl
theorem ta_stopped:TA Try.prog stoppedV (.agg #[]) true:=fun a w h=>by
  have e:a.eval (.tmp 8)=stoppedV:=h
  unfold stoppedV at e
  simp only [Act.eval] at e
  exact ⟨by simp [go_sem,e,assert_run,Result.andThen],by simp [go_sem,e,assert_run,assert_events,Result.evThen]⟩
section
variable {gb:Nat} {C:Cli} {n0 i:Nat} {k:Wk} {Post:Value→World→Prop}
abbrev HomeC (C:Cli) (n0 gb i:Nat) (k:Wk) (Post:Value→World→Prop):=Home C wkT wkP n0 gb i k Try.prog Post
abbrev LC (C:Cli) (n0 gb i:Nat) (k:Wk) (Post:Value→World→Prop):=LK C n0 i k Try.prog Post (KontC C wkT wkP gb i k Try.prog Post (HomeC C n0 gb i k Post))
abbrev LD (C:Cli) (n0 gb i:Nat) (k:Wk) (Post:Value→World→Prop):=LK C n0 i k Try.prog Post (KontD C wkT gb i k Try.prog Post)
structure Passed (C:Cli) (n0 gb i:Nat) (k:Wk) (fb:Nat) (x:C.X) (gh:Gst C) (w:World):Prop where
  mid:Mid C wkT n0 gb i k gh gh.Γ w
  own:C.own i gh.Γ=x
  kp:gh.kp fb
  box:BoxAt wkP k fb w
  bx:gh.w0.heap.size≤fb∨gh.bx fb
noncomputable def passTop:Code:=seqR (seqR (seqR (Try.f157.body.getD .skip)))
set_option maxHeartbeats 1000000 in
theorem pass_on {fb:Nat} {x:C.X} {gh:Gst C} {w:World} (X:Passed C n0 gb i k fb x gh w) {c:Frame} {cs:List Frame} {y1 y2 y3 y4 y5 y6 y7 y8 y9 y10 y11 y12 y13 y14 y15 y16 y17 y18:Value}
    (H:∀ gh w,Passed C n0 gb i k fb x gh w→LC C n0 gb i k Post gh (G (c.finish (.tuple #[])) cs) w) :
    LC C n0 gb i k Post gh (G ((bk 157 .normal).at ⟨#[y1,y2,undef,undef,undef,undef,y3,y4,y5,y6,undef,undef,y7,y8,y9,y10,y11,y12,y13,y14,undef,y15,y16,y17,y18,.tuple #[.agg #[],.bool true],undef,undef,undef,undef,undef,undef,undef,undef,undef],[]⟩ [.inRegion (opsOf (seqL passTop)) [5,6,7,8,9,10],.code (seqR passTop)]) (c :: cs)) w:=by
  have O:=ownK C n0 i k Try.prog Post (KontC C wkT wkP gb i k Try.prog Post (HomeC C n0 gb i k Post))
  have T:=O.toCtl
  simp only [passTop,seqL,seqR,opsOf,Option.getD_some,Try.f157]
  refine laW ?_
  refine l_mask O (F:=fun _=>false) (fun f h=>by cases h) (hidesC X.mid.at_ _) (by simp) X.mid.did.hidOk rfl (by rfl) (by kernel_rfl) (R:=fun v x v'=>(∃ p,x=.pointer (some p))∧∀ y,y < v.heap.size→v'.heap[y]?=v.heap[y]?) (fun v M=>?_) (fun v x v' w' M hR A=>?_)
  · refine ⟨.pointer (some ⟨v.heap.size,0,none⟩),v.alloc (.cells #[] 133),by go_simp,⟨_,rfl⟩,fun y hy=>?_⟩
    show (v.heap.push _)[y]?=_
    rw [Array.getElem?_push_lt hy,Array.getElem?_eq_getElem hy]
  obtain ⟨⟨p,rfl⟩,hnew⟩:=hR
  have A':Alone (c0 gb 1) gh.gm.H w v' w':=by rw [← X.mid.hgb];exact A
  obtain ⟨E',hlow⟩:=X.mid.alone M A' hnew
  have X':Passed C n0 gb i k fb x gh w':=⟨E',X.own,X.kp,(hlow fb (Array.getElem?_eq_some_iff.1 X.box).1 (X.mid.kp_H fb X.kp)).trans X.box,X.bx⟩
  walk_nrm
  refine l_none O (by simp) rfl (by rfl) (fun w=>by go_simp) (fun w=>by simp [go_sem]) ?_
  walk_nrm
  refine laW ?_
  (refine l_cond T false rfl ?_;simp only [if_true,if_false,Bool.false_eq_true,↓reduceIte])
  refine l_skip T ?_
  refine l_fin T ?_
  exact l_leave T Try.func157 rfl (resultsC_none rfl _) (H _ _ X')
theorem pass_die {fb:Nat} {x:C.X} {gh:Gst C} {w:World} (X:Passed C n0 gb i k fb x gh w) {c:Frame} {cs:List Frame} (hS:SkF fb gb (c :: cs)) (hcm:c.mode=.run) {y2 y3 y4 y5 y6 y7 y8 y9 y10 y11 y12 y13 y14 y15 y16 y17 y18:Value} :
    LD C n0 gb i k Post gh (G ((bk 157 .normal).at ⟨#[.pointer (some (c0 k.blk 0)),y2,undef,undef,undef,undef,y3,y4,y5,y6,undef,undef,y7,y8,y9,y10,y11,y12,y13,y14,undef,y15,y16,y17,y18,.tuple #[.agg #[],.bool false],undef,undef,undef,undef,undef,undef,undef,undef,undef],[]⟩ [.inRegion (opsOf (seqL passTop)) [5,6,7,8,9,10],.code (seqR passTop)]) (c :: cs)) w:=by
  have O:=ownK C n0 i k Try.prog Post (KontD C wkT gb i k Try.prog Post)
  have T:=O.toCtl
  have hq:(Try.prog.funcs[157]?).any (·.norace)=false:=by rw [Try.func157];rfl
  simp only [passTop,seqL,seqR,opsOf,Option.getD_some,Try.f157]
  refine laW ?_
  refine l_mask O (F:=fun _=>false) (fun f h=>by cases h) (hidesC X.mid.at_ _) (by simp) X.mid.did.hidOk rfl (by rfl) (by kernel_rfl) (R:=fun v x v'=>(∃ p,x=.pointer (some p))∧∀ y,y < v.heap.size→v'.heap[y]?=v.heap[y]?) (fun v M=>?_) (fun v x v' w' M hR A=>?_)
  · refine ⟨.pointer (some ⟨v.heap.size,0,none⟩),v.alloc (.cells #[] 133),by go_simp,⟨_,rfl⟩,fun y hy=>?_⟩
    show (v.heap.push _)[y]?=_
    rw [Array.getElem?_push_lt hy,Array.getElem?_eq_getElem hy]
  obtain ⟨⟨p,rfl⟩,hnew⟩:=hR
  have A':Alone (c0 gb 1) gh.gm.H w v' w':=by rw [← X.mid.hgb];exact A
  obtain ⟨E',hlow⟩:=X.mid.alone M A' hnew
  have X':Passed C n0 gb i k fb x gh w':=⟨E',X.own,X.kp,(hlow fb (Array.getElem?_eq_some_iff.1 X.box).1 (X.mid.kp_H fb X.kp)).trans X.box,X.bx⟩
  walk_nrm
  refine l_none O (by simp) rfl (by rfl) (fun w=>by go_simp) (fun w=>by simp [go_sem]) ?_
  walk_nrm
  refine laW ?_
  (refine l_cond T true rfl ?_;simp only [if_true,if_false,Bool.false_eq_true,↓reduceIte])
  refine laW ?_
  have hbg:k.blk≠gh.gm.gb:=(E'.wf.blk _ (Gm.at E'.at_)).1
  refine l_store O (by simp) rfl (by rfl) (p:=c0 k.blk 4) (x:=.bool false) (y:=.bool true) (E'.wk.cell 4) (E'.wk.frozen 4) (.inl hbg) (E'.wf.noShun (Gm.at E'.at_) 4) (fun g _ _=>sitC_S (by omega)) (fun w h=>Gm.K_own E'.wf E'.at_ (by omega) h) (fun g c h=>sitC_ch E'.wf E'.at_ h) (fun w₁ hc₁ hf₁=>⟨?_,?_⟩) ?_
  · go_simp
  · simp [listed,go_sem,hc₁,hf₁]
    rw [events_store Try.prog w₁ #[] _ (.bool true) .plain rfl]
    simp only [show w₁.cell? ⟨k.blk,4,none⟩=some (.bool false) from hc₁,show w₁.frozen? ⟨k.blk,4,none⟩=false from hf₁]
    exact seen_cell hq _ _ _
  walk_nrm
  refine laW ?_
  refine l_val T (v:=stoppedV) (by simp) rfl (by rfl) (fun w=>?_) (fun w=>?_) ?_
  · go_simp
    rfl
  · simp [go_sem,mkI_events]
  walk_nrm
  refine l_panic T (v:=stoppedV) (by simp) rfl (by rfl) (fun w=>?_) (fun w=>?_) ?_
  · go_simp
    rw [panic_run];rfl
  · simp [go_sem,panic_events,panic_run,Result.evThen]
  obtain ⟨bs,ts,todo,hB,e⟩:=hS
  rw [e]
  obtain ⟨n,hn⟩:=E'.chB.2
  have hend:=E'.ending (fb:=fb) (n0':=0)
  have hne:∀ x,x≠k.blk→(w'.setCell (c0 k.blk 4) (.bool true)).heap[x]?=w'.heap[x]?:=fun x hx=>setCell_ne w' (c0 k.blk 4) _ hx
  have hself:=E'.wf.self _ (Gm.at E'.at_)
  have hfb:=E'.kp_H fb X.kp
  refine l_down T (d:=footRun ts (footDs fb gb) todo) rfl bs hB rfl ⟨_,Try.func157⟩ ?_
  exact foot_pan ⟨E'.at_,E'.hn0,E'.hgb,E'.wf,E'.did.store hend.1 E'.kp_H hend.2 4 _,⟨n,(hne _ (fun e=>hself.2.1 e.symm)).trans hn⟩,(hne fb (fun e=>hfb (by rw [e];exact hend.1))).trans X'.box,hfb,E'.kp_low,E'.kp_H,E'.H_low,E'.H_foot⟩ ta_stopped E'.wk.over fun K kd ov w n D hw hc=>K kd ov _ w n D hw hc
set_option maxHeartbeats 2000000 in
theorem pass_calls {fb:Nat} {gh:Gst C} {w:World} {kind:Int} {Γ':C.G} (nx:C.next i gh.Γ Γ') (M:Mid C wkT n0 gb i k gh Γ' w) (hst:C.stand (C.own i Γ')=some kind) (hbox:BoxAt wkP k fb w) (hfoot:¬ C.foot Γ' fb) (hfH:¬ gh.gm.H fb) (hbx:gh.w0.heap.size≤fb∨gh.bx fb) :
    CallsL Try.prog (LC C n0 gb i k Post) (SkF fb gb) 157 #[.pointer (some (c0 k.blk 0)),.int .i64 kind] gh w (fun r gh' w'=>r=.inl (.tuple #[])∧Passed C n0 gb i k fb (C.own i Γ') gh' w'):=by
  intro c cs hS hkd hcm h1 _
  have O:=ownK C n0 i k Try.prog Post (KontC C wkT wkP gb i k Try.prog Post (HomeC C n0 gb i k Post))
  have T:=O.toCtl
  have hq:(Try.prog.funcs[157]?).any (·.norace)=false:=by rw [Try.func157];rfl
  have hbg:k.blk≠gh.gm.gb:=(M.wf.blk _ (Gm.at M.at_)).1
  rw [enter_bk Try.func157 rfl]
  walk_nrmf Try.f157
  refine laW ?_
  have hover:w.cell? ⟨k.blk,4,none⟩=some (.bool false):=M.wk.cell 4
  have hns4:¬ ShunOf (gh.gm.gb :: gh.gm.old) (.cell ⟨k.blk,4,none⟩):=M.wf.noShun (Gm.at M.at_) 4
  (refine l_load O (by simp) rfl (by rfl) hover (.inl hbg) hns4 (fun w₁ hc₁=>⟨by go_simp,by simp [listed,go_sem,hc₁];exact seen_cell hq _ _ _⟩) ?_;walk_nrm)
  refine laW ?_
  (refine l_cond T false rfl ?_;simp only [if_true,if_false,Bool.false_eq_true,↓reduceIte])
  refine laW ?_
  refine l_store O (by simp) rfl (by rfl) (p:=c0 k.blk 2) (x:=.int .i64 gh.kd) (y:=.int .i64 kind) (M.wk.cell 2) (M.wk.frozen 2) (.inl hbg) (M.wf.noShun (Gm.at M.at_) 2) (fun g _ _=>sitC_S (by omega)) (fun w h=>Gm.K_own M.wf M.at_ (by omega) h) (fun g c h=>sitC_ch M.wf M.at_ h) (fun w₁ hc₁ hf₁=>⟨?_,?_⟩) ?_
  · go_simp
  · simp [listed,go_sem,hc₁,hf₁]
    exact seen_cell hq _ _ _
  walk_nrm
  refine laW ?_
  have hwk:=M.wk.kind (kd':=kind)
  generalize hw':w.setCell (c0 k.blk 2) (.int .i64 kind)=w' at hwk ⊢
  have hback:w'.cell? ⟨k.blk,1,none⟩=some (.chan (some k.back)):=hwk.cell 1
  have hns1:¬ ShunOf (gh.gm.gb :: gh.gm.old) (.cell ⟨k.blk,1,none⟩):=M.wf.noShun (Gm.at M.at_) 1
  (refine l_load O (by simp) rfl (by rfl) hback (.inl hbg) hns1 (fun w₁ hc₁=>⟨by go_simp,by simp [listed,go_sem,hc₁];exact seen_cell hq _ _ _⟩) ?_;walk_nrm)
  have hend:=M.ending (fb:=fb) (n0':=0)
  have hne:∀ x,x≠k.blk→w'.heap[x]?=w.heap[x]?:=fun x hx=>by rw [← hw'];exact setCell_ne w (c0 k.blk 2) _ hx
  have hself:=M.wf.self _ (Gm.at M.at_)
  have hD:Did C gb k gh Γ' w':=by rw [← hw'];exact M.did.store hend.1 M.kp_H hend.2 2 _
  obtain ⟨hkT,clT,nT,hT⟩:=M.chT
  obtain ⟨hkB,nB,hB⟩:=M.chB
  have hB':w'.heap[k.back]?=some (.chan 0 #[] false nB nB false):=(hne _ (fun e=>hself.2.1 e.symm)).trans hB
  have hbox':BoxAt wkP k fb w':=(hne fb (fun e=>hfH (by rw [e];exact hend.1))).trans hbox
  have hpos:=M.wf.pos
  have hlen:i < gh.gm.ws.length:=(List.getElem?_eq_some_iff.1 M.at_).1
  have hM:=M.hn0
  intro ok K
  obtain ⟨nO,hO⟩:=K.openT
  have hT':w'.heap[k.turn]?=some (.chan 0 #[] false nO nO false):=by
    rw [hne _ (fun e=>hself.1 e.symm),M.did.kp _ hkT];exact hO
  refine Lh.giveE ok rfl (j:=0) (c:=k.back) (z:=.bool false) (okr:=false) (home:=gh.home0) (v:=.bool true) (r':=.seat k.turn zT true (HomeC C n0 gb i k Post fb (C.own i Γ'))) (S':=gh.gm.S (n0 + i)) ?_ ?_ ?_ (atSend (z:=.tuple #[]) (by simp) rfl (by rfl) (fun w=>?_) (fun w=>?_)) hB' (Becomes.ofSeat ?_ ?_ ?_ ?_) ?_
  · rw [← hM];omega
  · show 0 < gh.gm.n0 + gh.gm.ws.length;omega
  · exact upd_same gh.gm.R0 0 _
  · go_simp
    rfl
  · simp [go_sem]
  · rintro l ⟨_,p,hp,rfl⟩
    exact ⟨rfl,M.wf.noShun (Gm.at hp) 0⟩
  · rintro x ⟨_,p,hp,e⟩
    cases e
    rw [← hM] at hp
    rw [show gh.gm.n0 + i - gh.gm.n0=i by omega,M.at_] at hp
    cases hp
    exact (Array.getElem?_eq_some_iff.1 hwk).1
  · refine ⟨(M.wf.blk _ (Gm.at M.at_)).2.1,fun y hy hh=>?_,_,_,hT'⟩
    rcases sitC_has hh with ⟨_,e⟩ | ⟨_,hx⟩
    · exact hself.2.2.2.1 e
    · obtain ⟨hy1,p,hp,e,_⟩:=Gm.R0_seat hx
      have hij:i≠y - gh.gm.n0:=fun e=>hy (by rw [← hM];omega)
      exact M.wf.other _ _ _ _ M.at_ hp hij k.turn (by simp [Wk.nums]) (by rw [e];simp [Wk.nums])
  · rw [served_bk rfl]
    refine WaySeat.sits (w:=w') ?_
    clear T
    have T:=waySeat_ctl (P:=Try.prog) (main:=n0 + i == 0) (K:=(Sit.of k gh).K) (S:=gh.gm.S (n0 + i)) (c:=k.turn) (z:=zT) (ok:=true) (home:=HomeC C n0 gb i k Post fb (C.own i Γ'))
    walk_nrm
    refine laW ?_
    refine WaySeat.load (by simp) rfl (by rfl) (p:=c0 k.blk 0) (x:=.chan (some k.turn)) (fun w hK=>(hK _ (Gm.at M.at_)).1) ⟨by omega,_,by rw [← hM,show gh.gm.n0 + i - gh.gm.n0=i by omega];exact M.at_,rfl⟩ (fun w₁ hc₁=>⟨by go_simp,by simp [listed,go_sem,hc₁];exact seen_cell hq _ _ _⟩) ?_
    walk_nrm
    refine WaySeat.here (by simp) rfl (by rfl) (fun w=>?_) (fun w=>?_) ?_
    · go_simp
      rfl
    · simp [go_sem]
    refine Home.into ⟨fun gh' w'' R e K'=>?_,fun gh' w'' R e K'=>?_⟩
    · rw [served_bk rfl]
      walk_nrm
      exact pass_on (n0:=n0) (gb:=gb) ⟨R.mid,e,R.box.1,R.box.2,R.bx⟩ (fun gh w X=>h1 _ _ _ ⟨rfl,X⟩) (sitC_ok R.mid.wf R.mid.at_ _) K'
    · rw [served_bk rfl]
      walk_nrm
      exact pass_die (n0:=n0) (gb:=gb) ⟨R.mid,e,R.box.1,R.box.2,R.bx⟩ hS hcm (sitC_ok R.mid.wf R.mid.at_ _) K'
  · intro g₂ hg₂
    have:=give_back (P:=Try.prog) (Post:=Post) M.wf M.at_ (.sits (HomeC C n0 gb i k Post fb (C.own i Γ')) fb) gh.home0 (K.yield Γ' fb kind w' nB nx hst hD hwk hbox' hfoot hfH hB' hbx g₂ hg₂)
    rw [M.hn0] at this
    exact this
end
end Go.Proofs.Ytndppafplgilbaa
namespace Go.Proofs.Ytndppafplgilbaa
open Go Go.Conc Go.RowKit
open Go.ConcN (sumTo upd sumTo_upd upd_ne upd_same)
structure EndedC (C:Cli) (n0 gb i:Nat) (k:Wk) (fb:Nat) (p:Bool) (gh:Gst C) (Γ':C.G) (w:World):Prop where
  nx:C.next i gh.Γ Γ'
  mid:Mid C wkT n0 gb i k gh Γ' w
  st:C.stand (C.own i Γ')=none
  pan:C.pan (C.own i Γ')=p
  box:BoxAt wkP k fb w
  boxH:¬ gh.gm.H fb
def BodyOk (C:Cli) (n0 gb i:Nat) (k:Wk) (Post:Value→World→Prop) (x0:C.X) (bf:FuncId) (bcap:Array Value):Prop :=
  ∀ fb gh w,Ready C wkT wkP n0 gb i k fb gh w→C.own i gh.Γ=x0 →
    CallsL Try.prog (LC C n0 gb i k Post) (SkF fb gb) bf (#[.int .i64 i,.iface wkP (.pointer (some (c0 k.blk 0)))] ++ bcap) gh w fun r gh' w' =>
      (∃ v Γ',r=.inl v∧EndedC C n0 gb i k fb false gh' Γ' w')∨∃ t x Γ',r=.inr [{ v:=.iface t x,recovered:=false }]∧TA Try.prog (.iface t x) (.agg #[]) false∧EndedC C n0 gb i k fb true gh' Γ' w'
theorem mkW_events (v:Value) (w:World):(Instr.makeInterface 171 v).events Try.prog w #[]=#[]:=by kernel_rfl
section
variable {gb:Nat} {C:Cli} {n0 i:Nat} {k:Wk} {Post:Value→World→Prop}
theorem EndedC.ending {fb:Nat} {p:Bool} {gh:Gst C} {Γ':C.G} {w:World} (E:EndedC C n0 gb i k fb p gh Γ' w):Ending C n0 gb i k fb gh Γ' w :=
  ⟨E.mid.at_,E.mid.hn0,E.mid.hgb,E.mid.wf,E.mid.did,E.mid.chB.2,E.box,E.boxH,E.mid.kp_low,E.mid.kp_H,E.mid.H_low,E.mid.H_foot⟩
set_option maxHeartbeats 2000000 in
theorem foot_start {gh:Gst C} {w:World} {b0 b1:Nat} {bty:TypeId} {bf:FuncId} {bfn:Func} {bcap:Array Value} {x0:C.X} (M:Mid C wkT n0 gb i k gh gh.Γ w) (hw0:gh.w0=w) (hown:C.own i gh.Γ=x0) (B:BodyOk C n0 gb i k Post x0 bf bcap)
    (hbf:Try.prog.funcs[bf]?=some bfn) (hbn:(bfn.name == "runtime.NumGoroutine")=false) (hbb:bfn.body.isNone=false)
    (hb0:gh.kp b0∧w.heap[b0]?=some (.cells #[.func (.func bf) #[] bcap] bty (0,0))) (hb1:gh.kp b1∧w.heap[b1]?=some (.cells #[.int .i64 i] 3 (0,0))) (hvar:w.cell? (c0 k.var 0)=some (.pointer (some (c0 k.blk 0)))) :
    LC C n0 gb i k Post gh (G (Frame.enter Try.prog 92 #[.pointer (some (c0 k.blk 0)),.pointer (some (c0 gb 1)),.func (.func 93) #[] #[.pointer (some (c0 b0 0)),.pointer (some (c0 b1 0)),.pointer (some (c0 k.var 0))]] .deferred) [bornF Try.prog]) w:=by
  have O:=ownK C n0 i k Try.prog Post (KontC C wkT wkP gb i k Try.prog Post (HomeC C n0 gb i k Post))
  have T:=O.toCtl
  have hbg:k.blk≠gb:=by rw [← M.hgb];exact (M.wf.blk _ (Gm.at M.at_)).1
  rw [show Frame.enter Try.prog 92 #[.pointer (some (c0 k.blk 0)),.pointer (some (c0 gb 1)),.func (.func 93) #[] #[.pointer (some (c0 b0 0)),.pointer (some (c0 b1 0)),.pointer (some (c0 k.var 0))]] .deferred=_ from enter_atD _ Try.func92 rfl,show baseD 92=bk 92 .deferred from rfl]
  walk_nrmf Try.f92
  refine l_seq T ?_
  (refine l_region T ?_;simp only [List.size_toArray,List.length_cons,List.length_nil,Nat.reduceAdd,Nat.zero_add,List.range,List.range.loop])
  refine l_mask O (F:=fun _=>false) (fun f h=>by cases h) (hidesC M.at_ _) (by simp) M.did.hidOk rfl (by rfl) (by kernel_rfl) (R:=fun v x v'=>x=.pointer (some (c0 v.heap.size 0))∧v'=v.alloc (.cells #[.pointer (some (c0 k.blk 0))] 171)) (fun v M=>⟨_,_,by go_simp,rfl,rfl⟩) (fun v x v' w' Mk hR A=>?_)
  obtain ⟨rfl,rfl⟩:=hR
  have hnew:∀ y,y < v.heap.size→(v.alloc (.cells #[.pointer (some (c0 k.blk 0))] 171)).heap[y]?=v.heap[y]?:=fun y hy=>by
    show (v.heap.push _)[y]?=_
    rw [Array.getElem?_push_lt hy,Array.getElem?_eq_getElem hy]
  have A':Alone (c0 gb 1) gh.gm.H w (v.alloc (.cells #[.pointer (some (c0 k.blk 0))] 171)) w':=by rw [← M.hgb];exact A
  obtain ⟨M',hlow⟩:=M.alone Mk A' hnew
  have hbx:BoxAt wkP k v.heap.size w':=A.masked.cells (show (v.heap.push _)[v.heap.size]?=_ by simp)
  have hsz:v.heap.size=w.heap.size:=Mk.size
  have hsz':w'.heap.size=v.heap.size + 1:=by rw [← A.masked.size];show (v.heap.push _).size=_;simp
  have hgH:gh.gm.H gb:=.inl M.hgb.symm
  have hk1:w'.heap[k.blk]?=gh.w0.heap[k.blk]?:=by rw [hw0];exact A'.own (.inr (.inr ⟨_,Gm.at M.at_,.inl rfl⟩)) hbg
  have hvne:k.var≠gb:=by rw [← M.hgb];exact (M.wf.blk _ (Gm.at M.at_)).2.2.2
  have hvar':w'.cell? (c0 k.var 0)=some (.pointer (some (c0 k.blk 0))):=by
    unfold World.cell?
    rw [A'.own (x:=(c0 k.var 0).block) (.inr (.inr ⟨_,Gm.at M.at_,.inr rfl⟩)) hvne]
    exact hvar
  generalize hfb:v.heap.size=fb at hsz hsz' hbx ⊢
  have R1:Ready C wkT wkP n0 gb i k fb (gh.based fb w') w':=Mid.based M' (fun x hx hH=>by rw [hw0] at hx ⊢;exact hlow x hx hH) (by rw [hw0];omega) (by omega) (fun h=>by have:=C.low _ _ M.did.M _ h;omega) hbx
  have hc0:w'.cell? (c0 b0 0)=some (.func (.func bf) #[] bcap):=by
    have h:=(hlow b0 (by rw [← hw0];exact M.kp_low _ hb0.1) (M.kp_H _ hb0.1)).trans hb0.2
    exact cell_of (show w'.heap[(c0 b0 0).block]?=_ from h) rfl
  have hc1:w'.cell? (c0 b1 0)=some (.int .i64 i):=by
    have h:=(hlow b1 (by rw [← hw0];exact M.kp_low _ hb1.1) (M.kp_H _ hb1.1)).trans hb1.2
    exact cell_of (show w'.heap[(c0 b1 0).block]?=_ from h) rfl
  have hn0:b0≠gh.gm.gb:=fun e=>M.kp_H _ hb0.1 (.inl e)
  have hn1:b1≠gh.gm.gb:=fun e=>M.kp_H _ hb1.1 (.inl e)
  have hs0:¬ ShunOf (gh.gm.gb :: gh.gm.old) (.cell (c0 b0 0)):=fun h=>M.kp_H _ hb0.1 (shun_H h)
  have hs1:¬ ShunOf (gh.gm.gb :: gh.gm.old) (.cell (c0 b1 0)):=fun h=>M.kp_H _ hb1.1 (shun_H h)
  have hs2:¬ ShunOf (gh.gm.gb :: gh.gm.old) (.cell (c0 k.var 0)):=by
    rintro ⟨x,hx,h⟩
    rcases h with h | h <;> (injection h with h;injection h with h1 h2;omega)
  intro ok K
  have K1:=K.based (fb:=fb) hbg hgH M'.did hk1 M.chT.1 (by rw [hw0];omega)
  refine (?_:LC C n0 gb i k Post (gh.based fb w') _ w') ok K1
  walk_nrm
  refine laW ?_
  have hvne2:k.var≠gh.gm.gb:=by rw [M.hgb];exact hvne
  have hq:(Try.prog.funcs[93]?).any (·.norace)=false:=by rw [Try.func93];rfl
  refine l_any T rfl (fun w=>stepG_defer rfl rfl (by simp [bk]) rfl) ?_
  walk_nrm
  refine laW ?_
  refine l_defer T (d:={ target:=.fn (.func 125) #[.pointer (some (c0 fb 0))],args:=#[] }) (by simp) rfl (by rfl) (fun w=>?_) (fun w=>?_) ?_
  · go_simp
  · simp [go_sem]
  walk_nrm
  refine laW ?_
  refine l_enter T (fn:=Try.f93) (c:=.skip) (g:=93) (xs:=#[.pointer (some (c0 b0 0)),.pointer (some (c0 b1 0)),.pointer (some (c0 k.var 0))]) (by simp) rfl (by rfl) (fun w=>?_) (fun w=>?_) ?_
  · go_simp
  · simp [go_sem,events_into Try.func93 (by kernel_rfl) (by kernel_rfl)]
  rw [enter_bk Try.func93 rfl]
  walk_nrmf Try.f93
  (refine l_region T ?_;simp only [List.size_toArray,List.length_cons,List.length_nil,Nat.reduceAdd,Nat.zero_add,List.range,List.range.loop])
  (refine l_load O (by simp) rfl (by rfl) hc0 (.inl hn0) hs0 (fun w₁ hc₁=>⟨by go_simp,by simp [listed,go_sem,hc₁];exact seen_cell hq _ _ _⟩) ?_;walk_nrm)
  (refine l_load O (by simp) rfl (by rfl) hc1 (.inl hn1) hs1 (fun w₁ hc₁=>⟨by go_simp,by simp [listed,go_sem,hc₁];exact seen_cell hq _ _ _⟩) ?_;walk_nrm)
  (refine l_load O (by simp) rfl (by rfl) hvar' (.inl hvne2) hs2 (fun w₁ hc₁=>⟨by go_simp,by simp [listed,go_sem,hc₁];exact seen_cell hq _ _ _⟩) ?_;walk_nrm)
  refine laW ?_
  refine l_val T (v:=.iface wkP (.pointer (some (c0 k.blk 0)))) (by simp) rfl (by rfl) (fun w=>?_) (fun w=>by simp [go_sem,mkW_events]) ?_
  · go_simp
  walk_nrm
  refine l_enter T (fn:=bfn) (c:=.skip) (g:=bf) (xs:=#[.int .i64 i,.iface wkP (.pointer (some (c0 k.blk 0)))] ++ bcap) (by simp) rfl (by rfl) (fun w=>?_) (fun w=>?_) ?_
  · simp [go_sem,run_into hbf hbn hbb]
  · simp [go_sem,events_into hbf hbn hbb]
  refine B fb _ _ R1 hown _ _ ⟨[_],_,_,?_,rfl⟩ (by simp [bk,Frame.at]) rfl (fun v gh' w'' hP=>?_) (fun ch gh' w'' hP=>?_)
  · intro b hb
    simp only [List.mem_singleton] at hb
    subst hb
    exact ⟨_,_,_,_,rfl,Try.func93⟩
  · rcases hP with ⟨v',Γ',hv,E⟩ | ⟨_,_,_,h,_⟩
    · rw [bk_finish rfl]
      refine l_end T ?_
      refine l_fin T ?_
      refine l_leave T Try.func93 rfl (resultsC_none rfl _) ?_
      rw [bk_finish rfl]
      refine l_end T ?_
      refine l_fin T ?_
      exact foot_ret (gb:=gb) E.ending (by have h:=E.mid.wk;rw [E.mid.hpn] at h;exact h) (fun K kd ov w n D hw hc=>K.fin Γ' kd ov w n E.nx E.st D (by rw [E.pan];exact hw) hc)
    · cases h
  · rcases hP with ⟨_,_,h,_⟩ | ⟨t,x,Γ',h,hta,E⟩
    · cases h
    · cases h
      refine l_raise T Try.func93 rfl ?_
      exact foot_pan (gb:=gb) E.ending hta E.mid.wk (fun K kd ov w n D hw hc=>K.fin Γ' kd ov w n E.nx E.st D (by rw [E.pan];exact hw) hc)
end
end Go.Proofs.Ytndppafplgilbaa
namespace Go.Proofs.Ytndppafplgilbaa
open Go Go.Conc Go.RowKit
open Go.ConcN (sumTo upd sumTo_upd upd_ne upd_same)
theorem gate_method (v:Value) (w:World):(method 333 171 v "Pass").run Try.prog w=.ok (157,v) w:=by kernel_rfl
theorem gate_methodE (v:Value) (w:World):(method 333 171 v "Pass").events Try.prog w #[]=#[]:=by kernel_rfl
section
variable {gb:Nat} {C:Cli} {n0 i:Nat} {k:Wk} {Post:Value→World→Prop}
theorem SkF.push {fb:Nat} {cs:List Frame} (h:SkF fb gb cs) {f:FuncId} {fn:Func} {ts:Array Value} {todo:List Item} (hf:Try.prog.funcs[f]?=some fn):SkF fb gb ((bk f .normal).at ⟨ts,[]⟩ todo :: cs):=by
  obtain ⟨bs,ts',todo',hb,rfl⟩:=h
  refine ⟨(bk f .normal).at ⟨ts,[]⟩ todo :: bs,ts',todo',fun b hm=>?_,rfl⟩
  rcases List.mem_cons.1 hm with rfl | hm
  · exact ⟨_,_,_,_,rfl,hf⟩
  · exact hb b hm
set_option maxRecDepth 100000 in
set_option maxHeartbeats 2000000 in
theorem gate_calls {fb:Nat} {gh:Gst C} {w:World} {kind:Int} {Γ':C.G} (nx:C.next i gh.Γ Γ') (M:Mid C wkT n0 gb i k gh Γ' w) (hst:C.stand (C.own i Γ')=some kind) (hbox:BoxAt wkP k fb w) (hfoot:¬ C.foot Γ' fb) (hfH:¬ gh.gm.H fb) (hbx:gh.w0.heap.size≤fb∨gh.bx fb) :
    CallsL Try.prog (LC C n0 gb i k Post) (SkF fb gb) 64 #[.iface wkP (.pointer (some (c0 k.blk 0))),.int .i64 kind] gh w (fun r gh' w'=>r=.inl (.tuple #[])∧Passed C n0 gb i k fb (C.own i Γ') gh' w'):=by
  intro c cs hS hkd hcm h1 _
  have O:=ownK C n0 i k Try.prog Post (KontC C wkT wkP gb i k Try.prog Post (HomeC C n0 gb i k Post))
  have T:=O.toCtl
  rw [enter_bk Try.func64 rfl]
  walk_nrmf Try.f64
  refine laW ?_
  (refine l_cond T true (by simp [Act.eval] <;> omega) ?_;simp only [if_true,if_false,Bool.false_eq_true,↓reduceIte])
  refine laW ?_
  refine l_enter T (fn:=Try.f157) (c:=.skip) (g:=157) (xs:=#[.pointer (some (c0 k.blk 0)),.int .i64 kind]) (by simp) rfl (by rfl) (fun w=>?_) (fun w=>?_) ?_
  · go_simp
    simp [gate_method,Result.andThen,run_into Try.func157 (by kernel_rfl) (by kernel_rfl)]
  · simp [go_sem,gate_method,gate_methodE,Result.evThen,events_into Try.func157 (by kernel_rfl) (by kernel_rfl)]
  refine pass_calls nx M hst hbox hfoot hfH hbx _ _ (hS.push Try.func64) (by simp [bk,Frame.at]) rfl (fun v gh' w' hP=>?_) (fun ch gh' w' hP=>by cases hP.1)
  obtain ⟨hv,X⟩:=hP
  cases hv
  rw [bk_finish rfl]
  walk_nrm
  refine laW ?_
  refine l_fin T ?_
  exact l_leave T Try.func64 rfl (resultsC_none rfl _) (h1 _ _ _ ⟨rfl,X⟩)
end
end Go.Proofs.Ytndppafplgilbaa
namespace Go.Proofs.Ytndppafplgilbaa
open Go Go.Conc Go.RowKit
open Go.ConcN (sumTo upd sumTo_upd upd_ne upd_same)
section
variable {C:Cli} {Post:Value→World→Prop} {gm:Gm} {Γ:C.G} {keep dead:Nat→Prop} {w:World} {i:Nat} {k:Wk} {home:Goroutine→Prop} {fb:Nat}
abbrev MainB (C:Cli) (Post:Value→World→Prop) (gm:Gm) (Γ:C.G) (keep dead:Nat→Prop) (w:World):Prop:=Main C wkT wkP Try.prog Post gm Γ keep dead w
set_option maxHeartbeats 2000000 in
theorem on_calls (MW:MainB C Post gm Γ keep dead w) (hnd:¬ dead i) (hi:gm.ws[i]?=some (k,.sits home fb)) :
    CallsL Try.prog (LM Try.prog Post) (fun _=>True) 94 #[.pointer (some (c0 k.blk 0))] (sitG gm) w (fun r s' w'=>r=.inl (.tuple #[])∧∃ st' Γ',C.next i Γ Γ'∧s'=sitG (gm.put i st')∧MainB C Post (gm.put i st') Γ' keep dead w'∧(∀ x,keep x→w'.heap[x]?=w.heap[x]?)∧(∃ wr,RW (c0 gm.gb 1) w wr∧w'.heap[gm.gb]?=wr.heap[gm.gb]?)∧w.heap.size≤w'.heap.size):=by
  intro c cs _ hkd hcm h1 _
  have O:=ownM Try.prog Post
  have T:=O.toCtl
  have hq:(Try.prog.funcs[94]?).any (·.norace)=false:=by rw [Try.func94];rfl
  have hmem:=Gm.at hi
  have hW:=MW.ws i _ hi
  obtain ⟨⟨kd,hstd,hwk⟩,⟨n,hT⟩,hbx,hhome⟩:=hW.st
  have hself:=MW.wf.self _ hmem
  have hbg:k.blk≠gm.gb:=(MW.wf.blk _ hmem).1
  have hpos:=MW.wf.pos
  have hlen:i < gm.ws.length:=(List.getElem?_eq_some_iff.1 hi).1
  have hvar:k.var < w.heap.size:=by
    have h:=(MW.K _ hmem).2.2
    obtain ⟨_,_,_,h3,_⟩:=cell_some h
    exact (Array.getElem?_eq_some_iff.1 h3).1
  rw [enter_bk Try.func94 rfl]
  walk_nrmf Try.f94
  refine laW ?_
  have hc0:w.cell? ⟨k.blk,0,none⟩=some (.chan (some k.turn)):=hwk.cell 0
  have hns0:¬ ShunOf (gm.gb :: gm.old) (.cell ⟨k.blk,0,none⟩):=MW.wf.noShun hmem 0
  (refine l_load O (by simp) rfl (by rfl) hc0 (.inl hbg) hns0 (fun w₁ hc₁=>⟨by go_simp,by simp [listed,go_sem,hc₁];exact seen_cell hq _ _ _⟩) ?_;walk_nrm)
  refine laW ?_
  intro ok
  let w1:=w.setChan k.turn 0 #[] false (n + 1) (n + 1) false
  let home0:Goroutine→Prop:=fun g0=>∀ Γ' b st' w₂ nB,C.next i Γ Γ'→Did C gm.gb k (gstOf gm i Γ keep w1 (fun _=>False) kd) Γ' w₂→w₂.heap[k.back]?=some (.chan 0 #[] false nB nB false)→CameBack C wkT wkP Try.prog Post gm i k Γ' b st' w₂ →
    Lh Try.prog Post (sitG (gm.put i st')) 0 (Go.Conc.served g0 (.bool b)) (w₂.setChan k.back 0 #[] false (nB + 1) (nB + 1) false)
  refine Lh.giveE ok rfl (j:=gm.n0 + i) (c:=k.turn) (z:=zT) (okr:=true) (home:=home) (v:=zT) (r':=.seat k.back (.bool false) false home0) (S':=S0 k) ?_ ?_ ?_ (atSend (z:=.tuple #[]) (by simp) rfl (by rfl) (fun w=>?_) (fun w=>?_)) hT (Becomes.ofSeat ?_ ?_ ?_ ?_) ?_
  · omega
  · show gm.n0 + i < gm.n0 + gm.ws.length;omega
  · exact Gm.R0_at hi
  · go_simp
    rfl
  · simp [go_sem]
  · rintro l (rfl | rfl)
    · exact ⟨rfl,MW.wf.noShun hmem 1⟩
    · refine ⟨rfl,?_⟩
      rintro ⟨x,hx,h⟩
      rcases h with h | h <;> (injection h with h;injection h with h1 h2;omega)
  · rintro x (e | e)
    · cases e;exact (Array.getElem?_eq_some_iff.1 hwk).1
    · cases e;exact hvar
  · refine ⟨(MW.wf.blk _ hmem).2.2.1,fun y hy hh=>?_,?_⟩
    · obtain ⟨hy1,p,hp,e,_⟩:=Gm.R0_seat hh
      by_cases hij:i=y - gm.n0
      · rw [← hij,hi] at hp
        cases hp
        exact hself.2.2.2.1 e.symm
      · exact MW.wf.other _ _ _ _ hi hp hij k.back (by simp [Wk.nums]) (by rw [e];simp [Wk.nums])
    · obtain ⟨m,hm⟩:=hW.back
      exact ⟨_,_,hm⟩
  · rw [served_bk rfl]
    refine WaySeat.sits (w:=w) ?_
    clear T
    have T:=waySeat_ctl (P:=Try.prog) (main:=0 == 0) (K:=(sitG gm).K) (S:=S0 k) (c:=k.back) (z:=.bool false) (ok:=false) (home:=home0)
    walk_nrm
    refine laW ?_
    refine WaySeat.load (by simp) rfl (by rfl) (p:=c0 k.blk 1) (x:=.chan (some k.back)) (fun w hK=>(hK _ hmem).2.1) (.inl rfl) (fun w₁ hc₁=>⟨by go_simp,by simp [listed,go_sem,hc₁];exact seen_cell hq _ _ _⟩) ?_
    walk_nrm
    refine WaySeat.here (by simp) rfl (by rfl) (fun w=>?_) (fun w=>?_) ?_
    · go_simp
      rfl
    · simp [go_sem]
    intro Γ' b st' w₂ nB nx D hB hst
    rw [served_bk rfl]
    walk_nrm
    clear T
    have T:=O.toCtl
    have hi':=put_at hi st'
    have hW':=put_wf MW.wf i st'
    refine (?_:LM Try.prog Post (sitG (gm.put i st')) _ _) (sitG_ok hW')
    refine laW ?_
    obtain ⟨kd',ov,pn,hk2⟩:∃ kd' ov pn,WkAt wkT k kd' true ov pn w₂:=by
      rcases hst with ⟨_,_,kd',_,_,h,_⟩ | ⟨_,_,_,kd',ov,h⟩
      · exact ⟨_,_,_,h⟩
      · exact ⟨_,_,_,h⟩
    have hk3:WkAt wkT k kd' true ov pn (w₂.setChan k.back 0 #[] false (nB + 1) (nB + 1) false):=(heap_setChan_ne w₂ _ _ _ _ _ _ (fun e=>hself.2.1 e.symm)).trans hk2
    refine l_store O (by simp) rfl (by rfl) (p:=c0 k.blk 3) (x:=.bool true) (y:=.bool b) (hk3.cell 3) (hk3.frozen 3) (.inl hbg) (hW'.noShun (Gm.at hi') 3) (fun g _ _ hS=>?_) (fun w h=>Gm.K_own hW' hi' (by omega) h) (fun g c h=>?_) (fun w₁ hc₁ hf₁=>⟨?_,?_⟩) ?_
    · obtain ⟨_,p,_,h⟩:=hS
      injection h with h;injection h with h1 h2;omega
    · obtain ⟨_,p,hp,rfl,_⟩:=Gm.R0_seat h
      exact (hW'.chanK hp (.inl rfl) (Gm.at hi')).1
    · go_simp
    · simp [listed,go_sem,hc₁,hf₁]
      rw [events_store Try.prog w₁ #[] _ (.bool b) .plain rfl]
      simp only [show w₁.cell? ⟨k.blk,3,none⟩=some (.bool true) from hc₁,show w₁.frozen? ⟨k.blk,3,none⟩=false from hf₁]
      exact seen_cell hq _ _ _
    walk_nrm
    refine l_end T ?_
    refine l_fin T ?_
    exact l_leave T Try.func94 rfl (resultsC_none rfl _) (h1 _ _ _ ⟨rfl,st',Γ',nx,rfl,Main.back nx MW hnd hi hT D hB hst rfl⟩)
  · intro g₂ hg₂
    rw [hhome] at hg₂
    have hg:=(Home.out hg₂).1 (gstOf gm i Γ keep w1 home0 kd) w1 (MW.ready hi hT hwk hbx home0 false (n + 1)) rfl ⟨fun Γ' fb' kind w₂ nB h0 h1 D h3 h4 h5 h6 h7 _ g0 hg0=>?_,fun Γ' kd' ov w₂ nB h0 h1 D h3 h4 g0 hg0=>?_,⟨_,heap_setChan_self w hT _ _ _ _ _ _⟩⟩
    · exact give_on MW.wf hi home0 hg
    · have:=hg0 Γ' true (.sits (Home C wkT wkP gm.n0 gm.gb i k Try.prog Post fb' (C.own i Γ')) fb') w₂ nB h0 ⟨D.M,D.grow,D.kp,D.hid,D.hidOk,D.size⟩ h7 (.inl ⟨rfl,fb',kind,rfl,h1,h3,h4,h5,fun h=>h6 (by show (gm.put i .gone).H fb';rw [put_H];exact h)⟩)
      show Lh Try.prog Post (sitG ((gm.put i .gone).put i _)) 0 _ _
      rw [put_put];exact this
    · have:=hg0 Γ' false .done w₂ nB h0 ⟨D.M,D.grow,D.kp,D.hid,D.hidOk,D.size⟩ h4 (.inr ⟨rfl,rfl,h1,kd',ov,h3⟩)
      show Lh Try.prog Post (sitG ((gm.put i .gone).put i _)) 0 _ _
      rw [put_put];exact this
end
end Go.Proofs.Ytndppafplgilbaa
namespace Go.Proofs.Ytndppafplgilbaa
open Go Go.Conc Go.RowKit
open Go.ConcN (sumTo upd sumTo_upd upd_ne upd_same)
section
variable {Post:Value→World→Prop} {gb:Nat} {cs:List Frame} {c:Frame} {s:Sit} {w:World}
set_option maxRecDepth 100000 in
set_option maxHeartbeats 2000000 in
theorem load_look {n:Nat} (hst:s.st=c0 gb 1) (hn:w.cell? s.st=some (.int .u64 (n * 4294967296:Nat)))
    (H:∀ (m:Nat) w₁,m≤n→RW s.st w w₁→w₁.cell? s.st=some (.int .u64 (m * 4294967296:Nat))→LM Try.prog Post s (G (c.finish (.int .u64 ((m:Int) * 4294967296))) cs) w₁) :
    LM Try.prog Post s (G (Frame.enter Try.prog 120 #[.pointer (some ⟨gb,1,none⟩)] .normal) (c :: cs)) w:=by
  have O:=ownM Try.prog Post
  have T:=O.toCtl
  rw [enter_bk Try.func120 rfl]
  walk_nrmf Try.f120
  refine laW ?_
  refine LM.look rfl hn ?g1 ?h ?H
  case h =>
    intro w₁ m hm
    rw [hst] at hm ⊢
    refine (stepG_load_atomic rfl rfl (by simp [bk]) rfl Try.func138 (by kernel_rfl) (by kernel_rfl) (by kernel_rfl) .u64 (by kernel_rfl) rfl hm).trans ?_
    rfl
  case H =>
    intro m w₁ h1 h2 h3
    walk_nrm
    refine laW ?_
    refine l_ret T ?_
    exact l_leave T Try.func120 rfl (resultsC_tmp (t:=2) rfl _) (H m w₁ h1 h2 h3)
end
end Go.Proofs.Ytndppafplgilbaa
namespace Go.Proofs.Ytndppafplgilbaa
open Go Go.Conc Go.RowKit
open Go.ConcN (sumTo upd sumTo_upd upd_ne upd_same)
noncomputable def blkOf:Code→Code
  | .block _ x=>x
  | c=>c
noncomputable def loopOf:Code→Code
  | .loop x=>x
  | c=>c
noncomputable def waitBody:Code:=loopOf (blkOf (seqR (Try.f96.body.getD .skip)))
theorem rw_zero {st:Addr} {w w₁:World} {n:Nat} (hn:w.cell? st=some (.int .u64 (n * 4294967296:Nat))) (r:RW st w w₁) (h:w₁.cell? st=some (.int .u64 0)):∃ d,w₁=(w.setCell st (.int .u64 0)).at d:=by
  rcases r with ⟨d,rfl⟩ | ⟨n,n₁,d,h1,h2,rfl⟩
  · have h:w.cell? st=some (.int .u64 0):=h
    exact ⟨d,by rw [setCell_same h]⟩
  · have h:(w.setCell st _).cell? st=_:=h
    rw [cell_set h1] at h
    injection h with h
    injection h with _ h
    have e:n₁=0:=by omega
    subst e
    exact ⟨d,rfl⟩
theorem rw_le {st:Addr} {w w₁:World} {n k:Nat} (hn:w.cell? st=some (.int .u64 (n * 4294967296:Nat))) (r:RW st w w₁) (h:w₁.cell? st=some (.int .u64 (k * 4294967296:Nat))):k≤n:=by
  rcases r with ⟨d,rfl⟩ | ⟨n',n₁,d,h1,h2,rfl⟩
  · have h:w.cell? st=_:=h
    rw [hn] at h
    injection h with h
    injection h with _ h
    omega
  · have h:(w.setCell st _).cell? st=_:=h
    rw [cell_set h1] at h
    rw [hn] at h1
    injection h with h
    injection h with _ h
    injection h1 with h1
    injection h1 with _ h1
    omega
theorem rw_off {st:Addr} {w w₁:World} (r:RW st w w₁) {a:Addr} (ha:st.block≠a.block∨st.off≠a.off):w₁.cell? a=w.cell? a∧w₁.frozen? a=w.frozen? a:=by
  rcases r with ⟨d,rfl⟩ | ⟨n',n₁,d,h1,h2,rfl⟩
  · exact ⟨rfl,rfl⟩
  · exact ⟨cell_set_ne ha,frozen_set _ _ _ _⟩
section
variable {P:Program} {Post:Value→World→Prop} {s:Sit} {h:Nat} {g g₁ g₂:Goroutine} {w:World}
theorem LM.zero (hspot:s.st.spot=none) (hl:∀ x,x≠0→s.R0 x=.done∨s.R0 x=.leave) (hbd:∀ i,s.n≤i→s.A0 i=false) (h0:w.cell? s.st=some (.int .u64 0))
    (H:LM P Post { s with R0:=fun _=>.leave,A0:=fun _=>false } g w):LM P Post s g w:=fun ok=>Lh.zero hspot hl hbd h0 (H ⟨ok.Kat,ok.Kst,fun w c cap buf cl a b tm hx=>(by obtain ⟨x,hx⟩:=hx;exact hx.elim),fun x c hx=>hx.elim⟩)
theorem LM.conv {f:FuncId} {kd:CallKind} {a:Act} {k:List Item} {cs:List Frame} (hkd:kd≠.early) {ops:Array Oper} {i:Nat} {rest:List Nat} {o:Oper} {v:Value} (ho:ops[i]?=some o) (hw:Region.wanted o (yielded ops a.tmps)=true) (hc:∃ x,w.cell? s.st=some x)
    (hr:∀ w x,w.cell? s.st=some x→(execOp a.eval o).run P w=.ok (.value v) w) (he:∀ w x,w.cell? s.st=some x→(execOp a.eval o).events P w #[]=#[]) (H:LM P Post s (G ((bk f kd).at (a.put o.dst v) (.inRegion ops rest :: k)) cs) w):LM P Post s (G ((bk f kd).at a (.inRegion ops (i :: rest) :: k)) cs) w :=
  LM.mark (es:=#[]) rfl (fun e he=>by simp at he) hc (fun w x hx=>by
    have:=stepG_value (P:=P) (main:=(0 == 0)) (b:=bk f kd) (a:=a) (k:=k) (cs:=cs) (w:=w) (rest:=rest) ho hw hkd (hr w x hx)
    unfold listed at this
    rw [he w x hx,seen_none] at this
    exact this) H
theorem LM.cas {v:Nat} (hl:∀ x,x≠0→s.R0 x=.done∨s.R0 x=.leave) (hspot:s.st.spot=none) (hAh:s.A0 0=false) (hbd:∀ i,s.n≤i→s.A0 i=false) (hv:0 < v)
    (hKsm:∀ w x,s.K w→s.K (w.setCell (smA s.st) x)) (hSm:s.Shun (.cell (smA s.st))) (hsm0:w.cell? (smA s.st)=some (.int .u32 0)∧w.frozen? (smA s.st)=false) (hat:AtCas P (0 == 0) s.st v g g₁ g₂) (hacq:WayAcq P (0 == 0) s.st (fun g'=>LM P Post { s with R0:=fun _=>.leave,A0:=fun _=>false } g' (w.setCell s.st (.int .u64 0))) g₁ w)
    (H2:∀ w₁ k,RW s.st w w₁→w₁.cell? s.st=some (.int .u64 ((k:Nat) * 4294967296))→k≠v→k < 1000→LM P Post s g₂ w₁):LM P Post s g w:=fun ok=>by
  obtain ⟨g',na,hacq,H⟩:=hacq
  exact Lh.cas ok hl hspot hAh hbd hv hKsm hSm hsm0 hat hacq (H ⟨ok.Kat,ok.Kst,fun w c cap buf cl a b tm hx=>(by obtain ⟨x,hx⟩:=hx;exact hx.elim),fun x c hx=>hx.elim⟩) fun w₁ k r hc hk hk2=>H2 w₁ k r hc hk hk2 ok
theorem WayAcq.conv {st:Addr} {main:Bool} {Q:Goroutine→Prop} {f:FuncId} {kd:CallKind} {a:Act} {k:List Item} {cs:List Frame} (hkd:kd≠.early) {ops:Array Oper} {i:Nat} {rest:List Nat} {o:Oper} {v:Value} (ho:ops[i]?=some o) (hw:Region.wanted o (yielded ops a.tmps)=true)
    (hr:∀ w x,w.cell? (smA st)=some x→(execOp a.eval o).run P w=.ok (.value v) w) (he:∀ w x,w.cell? (smA st)=some x→(execOp a.eval o).events P w #[]=#[]) (H:WayAcq P main st Q (G ((bk f kd).at (a.put o.dst v) (.inRegion ops rest :: k)) cs) w):WayAcq P main st Q (G ((bk f kd).at a (.inRegion ops (i :: rest) :: k)) cs) w :=
  WayAcq.mark (es:=#[]) rfl (fun e he=>by simp at he) (fun w x hx=>by
    have:=stepG_value (P:=P) (main:=main) (b:=bk f kd) (a:=a) (k:=k) (cs:=cs) (w:=w) (rest:=rest) ho hw hkd (hr w x hx)
    unfold listed at this
    rw [he w x hx,seen_none] at this
    exact this) H
end
section
variable {Post:Value→World→Prop} {gb:Nat} {cs:List Frame} {c:Frame}
set_option maxRecDepth 100000 in
set_option maxHeartbeats 4000000 in
theorem wait_round {K:World→Prop} {S:Nat→Loc→Prop} {Shun:Loc→Prop} {R0:Nat→Role} {A0:Nat→Bool} {sn:Nat} (hl:∀ x,x≠0→R0 x=.done∨R0 x=.leave) (hA0:A0 0=false) (hbd:∀ i,sn≤i→A0 i=false) (hKsm:∀ w x,K w→K (w.setCell ⟨gb,2,none⟩ x)) (hSm:Shun (.cell ⟨gb,2,none⟩)) (w0:World) (N:Nat) (hN1:N < 1000) (hN:w0.cell? (c0 gb 1)=some (.int .u64 (N * 4294967296:Nat))) (hsm:w0.cell? ⟨gb,2,none⟩=some (.int .u32 0)∧w0.frozen? ⟨gb,2,none⟩=false)
    (H:LM Try.prog Post ⟨K,S,Shun,c0 gb 1,fun _=>.leave,fun _=>false,sn,0⟩ (G (c.finish (.tuple #[])) cs) (w0.setCell (c0 gb 1) (.int .u64 0))) :
    ∀ (n:Nat) (w:World),RW (c0 gb 1) w0 w→w.cell? (c0 gb 1)=some (.int .u64 (n * 4294967296:Nat))→∀ y1 y2 y3 y4 y5 y6 y7 y8 y9 y10 y11 y12 y13 y14 y15 y16 y17 y18 y19 y20 y21 y22 y23 y24 y25 y26 y27 y28 y29 y30 y31 y32 y33 y34 y35 y36 y37 y38 y39 y40 y41 y42 y43 y44 y45 y46 y47 y48 y49 y50 y51 y52 y53 y54 y55 y56 y57 y58 y59 y60 y61 y62 y63 y64 y65 y66 y67 y68 y69 y70 y71 y72 y73 y74 y75 y76 y77 y78 y79 y80 y81 y82 y83:Value,LM Try.prog Post ⟨K,S,Shun,c0 gb 1,R0,A0,sn,1⟩ (G ((bk 96 .normal).at ⟨#[.pointer (some (c0 gb 1)),y1,y2,y3,y4,y5,y6,y7,y8,y9,y10,y11,y12,y13,y14,y15,y16,y17,y18,y19,y20,y21,y22,y23,y24,y25,y26,y27,y28,y29,y30,y31,y32,y33,y34,y35,y36,y37,y38,y39,y40,y41,y42,y43,y44,y45,y46,y47,y48,y49,y50,y51,y52,y53,y54,y55,y56,y57,y58,y59,y60,y61,y62,y63,y64,y65,y66,y67,y68,y69,y70,y71,y72,y73,y74,y75,y76,y77,y78,y79,y80,y81,y82,y83],[]⟩ [.code waitBody,.inLoop waitBody,.inBlock 0]) (c :: cs)) w:=by
  intro n
  induction n using Nat.strongRecOn with
  | _ n ih =>
  intro w rw0 hn y1 y2 y3 y4 y5 y6 y7 y8 y9 y10 y11 y12 y13 y14 y15 y16 y17 y18 y19 y20 y21 y22 y23 y24 y25 y26 y27 y28 y29 y30 y31 y32 y33 y34 y35 y36 y37 y38 y39 y40 y41 y42 y43 y44 y45 y46 y47 y48 y49 y50 y51 y52 y53 y54 y55 y56 y57 y58 y59 y60 y61 y62 y63 y64 y65 y66 y67 y68 y69 y70 y71 y72 y73 y74 y75 y76 y77 y78 y79 y80 y81 y82 y83
  have O:=ownM Try.prog Post
  have T:=O.toCtl
  simp only [waitBody,seqL,seqR,blkOf,loopOf,Option.getD_some,Try.f96]
  refine l_block T ?_
  refine laW ?_
  (refine l_enter T (fn:=Try.f120) (c:=.skip) (g:=120) (xs:=#[.pointer (some ⟨gb,1,none⟩)]) (by simp) rfl (by rfl) (fun w=>?_) (fun w=>?_) ?_;(focus go_simp);(focus (simp [go_sem,events_into Try.func120 (by kernel_rfl) (by kernel_rfl)])))
  refine load_look rfl hn fun m w₁ hm r hc=>?_
  simp only at r hc
  rw [bk_finish rfl]
  walk_nrm
  have hmN:m < 1000:=by have:=rw_le hN rw0 hn;omega
  have e1:IntKind.i32.wrap (m:Int)=(m:Int):=by rw [IntKind.wrap_i32];omega
  have e2:IntKind.u32.wrap (bits .and .u64 ((m:Int) * 4294967296) 2147483647)=0:=by
    have:=Go.ConcN.st_waiters m 0 (by omega) (by omega)
    simp only [Int.natCast_zero,Int.add_zero] at this
    rw [this];decide
  have e3:bits .and .u64 ((m:Int) * 4294967296) 2147483648=0:=by
    have:=Go.ConcN.st_flag m 0 (by omega) (by omega)
    simp only [Int.natCast_zero,Int.add_zero] at this
    exact this
  have e4:IntKind.i32.wrap ((m:Int) * 4294967296 / 4294967296)=(m:Int):=by rw [IntKind.wrap_i32];omega
  refine laW ?_
  try simp only [e1,e2,e3,e4]
  refine laW ?_
  by_cases hm0:m=0
  · subst hm0
    have hc0:w₁.cell? (c0 gb 1)=some (.int .u64 0):=hc
    have HC:w₁.cell? (c0 gb 1)=some (.int .u64 0):=hc
    refine LM.zero rfl hl hbd hc0 ?_
    simp only [Int.natCast_zero,Int.ofNat_zero,Int.zero_mul] at e3
    have e5:IntKind.i32.wrap 0=0:=by decide
    try simp only [Int.natCast_zero,Int.ofNat_zero,Int.zero_mul,e5]
    (refine l_cond T true (by simp [Act.eval] <;> omega) ?_;simp only [if_true,if_false,Bool.false_eq_true,↓reduceIte])
    refine laW ?_
    (refine l_cond T true rfl ?_;simp only [if_true,if_false,Bool.false_eq_true,↓reduceIte])
    refine laW ?_
    refine LM.mark rfl ?_ ⟨_,HC⟩ (fun w _ _=>stepG_mark0 .enable (by simp) rfl rfl (by simp [bk]) rfl Try.func113 (by kernel_rfl) (by kernel_rfl) (by kernel_rfl) (by kernel_rfl)) ?_
    · intro e he;simp at he;subst he;rfl
    walk_nrm
    clear T O
    have O:=ownM Try.prog Post
    have T:=O.toCtl
    refine laW ?_
    refine LM.conv (v:=.pointer (some (c0 gb 1))) (by simp) rfl (by rfl) ⟨_,HC⟩ (fun w x hx=>?_) (fun w x hx=>?_) ?_
    · have hcv:=run_convert_to_unsafe (P:=Try.prog) Try.underlying177 Try.underlying193 (by kernel_rfl) hx
      go_simp
    · have hcv:=events_convert_to_unsafe (P:=Try.prog) Try.underlying177 Try.underlying193 (by kernel_rfl) hx #[]
      simp [go_sem,hcv]
    walk_nrm
    refine LM.mark rfl ?_ ⟨_,HC⟩ (fun w _ _=>stepG_markAt .acquire (by simp) rfl rfl (by simp [bk]) rfl Try.func126 (by kernel_rfl) (by kernel_rfl) (by kernel_rfl) (by kernel_rfl) (ad:=c0 gb 1) (by simp [Act.eval])) ?_
    · intro e he;simp at he;subst he;rfl
    walk_nrm
    refine laW ?_
    try simp only [e3]
    refine laW ?_
    (refine l_cond T false (by simp [Act.eval] <;> omega) ?_;simp only [if_true,if_false,Bool.false_eq_true,↓reduceIte])
    refine laW ?_
    refine l_ret T ?_
    refine l_leave T Try.func96 rfl (resultsC_none rfl _) ?_
    obtain ⟨d,rfl⟩:=rw_zero hN (rw0.trans r) hc0
    exact O.rely _ _ _ _ H (RW.at d)
  · have e6:IntKind.u64.wrap ((m:Int) * 4294967296 + 1)=(m:Int) * 4294967296 + 1:=by rw [IntKind.wrap_u64];omega
    have hc':w₁.cell? (c0 gb 1)=some (.int .u64 (m * 4294967296:Nat)):=hc
    (refine l_cond T false (by simp [Act.eval] <;> omega) ?_;simp only [if_true,if_false,Bool.false_eq_true,↓reduceIte])
    refine laW ?_
    try simp only [e6]
    (refine l_into T (by simp) rfl (by rfl) rfl Try.func128 (by rfl) rfl ?_;walk_nrmf Try.f128)
    refine laW ?_
    have r0:=rw0.trans r
    have hs2:=rw_off r0 (a:=⟨gb,2,none⟩) (.inr (by simp))
    refine LM.cas (v:=m) hl rfl hA0 hbd (by omega) hKsm hSm ⟨hs2.1.trans hsm.1,hs2.2.trans hsm.2⟩ (at_cas (by simp) rfl (by rfl) rfl Try.func140 (by kernel_rfl) (by kernel_rfl) (by kernel_rfl) (by kernel_rfl) (by simp [Act.eval]) (by simp [Act.eval]) (by simp [Act.eval])) ?acq ?H2
    case acq =>
      have T:=wayAcq_ctl (P:=Try.prog) (main:=(0 == 0)) (st:=c0 gb 1)
      walk_nrm
      refine laW ?_
      refine l_ret T ?_
      (refine l_leave T Try.func128 rfl (resultsC_tmp rfl _) ?_;rw [bk_finish rfl];walk_nrm)
      refine laW ?_
      (refine l_cond T true rfl ?_;simp only [if_true,if_false,Bool.false_eq_true,↓reduceIte])
      refine laW ?_
      (refine l_cond T true rfl ?_;simp only [if_true,if_false,Bool.false_eq_true,↓reduceIte])
      refine laW ?_
      refine WayAcq.conv (v:=.pointer (some ⟨gb,2,none⟩)) (by simp) rfl (by rfl) (fun w x hx=>?_) (fun w x hx=>?_) ?_
      · have hcv:=run_convert_to_unsafe (P:=Try.prog) Try.underlying199 Try.underlying193 (by kernel_rfl) hx
        go_simp
      · have hcv:=events_convert_to_unsafe (P:=Try.prog) Try.underlying199 Try.underlying193 (by kernel_rfl) hx #[]
        simp [go_sem,hcv]
      walk_nrm
      refine WayAcq.mark rfl ?_ (fun w _ _=>stepG_markAt .write (by simp) rfl rfl (by simp [bk]) rfl Try.func129 (by kernel_rfl) (by kernel_rfl) (by kernel_rfl) (by kernel_rfl) (ad:=⟨gb,2,none⟩) (by simp [Act.eval])) ?_
      · intro e he
        simp at he;subst he
        exact ⟨fun b hb=>by simp [MemAct.ofEvent,MemAct.touch?] at hb;subst hb;exact ⟨rfl,rfl⟩,by simp,by simp⟩
      walk_nrm
      refine laW ?_
      try simp only [e3]
      refine laW ?_
      (refine l_cond T false (by simp [Act.eval] <;> omega) ?_;simp only [if_true,if_false,Bool.false_eq_true,↓reduceIte])
      refine laW ?_
      refine WayAcq.here (at_acq (by simp) rfl (by rfl) rfl Try.func130 (by kernel_rfl) (by kernel_rfl) (by kernel_rfl) (by kernel_rfl) (by simp [Act.eval])) ?_
      have T:=O.toCtl
      walk_nrm
      have HC0:(w₁.setCell (c0 gb 1) (.int .u64 0)).cell? (c0 gb 1)=some (.int .u64 (0 * 4294967296:Nat)):=cell_set hc'
      refine laW ?_
      (refine l_enter T (fn:=Try.f120) (c:=.skip) (g:=120) (xs:=#[.pointer (some ⟨gb,1,none⟩)]) (by simp) rfl (by rfl) (fun w=>?_) (fun w=>?_) ?_;(focus go_simp);(focus (simp [go_sem,events_into Try.func120 (by kernel_rfl) (by kernel_rfl)])))
      refine load_look rfl HC0 fun m' w₂ hm' r' hc2=>?_
      have em:m'=0:=by omega
      subst em
      have HC:w₂.cell? (c0 gb 1)=some (.int .u64 0):=hc2
      rw [bk_finish rfl]
      walk_nrm
      try simp only [Int.natCast_zero,Int.ofNat_zero,Int.zero_mul]
      refine laW ?_
      (refine l_cond T true rfl ?_;simp only [if_true,if_false,Bool.false_eq_true,↓reduceIte])
      refine laW ?_
      refine LM.mark rfl ?_ ⟨_,HC⟩ (fun w _ _=>stepG_mark0 .enable (by simp) rfl rfl (by simp [bk]) rfl Try.func113 (by kernel_rfl) (by kernel_rfl) (by kernel_rfl) (by kernel_rfl)) ?_
      · intro e he;simp at he;subst he;rfl
      walk_nrm
      clear T O
      have O:=ownM Try.prog Post
      have T:=O.toCtl
      refine laW ?_
      refine LM.conv (v:=.pointer (some (c0 gb 1))) (by simp) rfl (by rfl) ⟨_,HC⟩ (fun w x hx=>?_) (fun w x hx=>?_) ?_
      · have hcv:=run_convert_to_unsafe (P:=Try.prog) Try.underlying177 Try.underlying193 (by kernel_rfl) hx
        go_simp
      · have hcv:=events_convert_to_unsafe (P:=Try.prog) Try.underlying177 Try.underlying193 (by kernel_rfl) hx #[]
        simp [go_sem,hcv]
      walk_nrm
      refine LM.mark rfl ?_ ⟨_,HC⟩ (fun w _ _=>stepG_markAt .acquire (by simp) rfl rfl (by simp [bk]) rfl Try.func126 (by kernel_rfl) (by kernel_rfl) (by kernel_rfl) (by kernel_rfl) (ad:=c0 gb 1) (by simp [Act.eval])) ?_
      · intro e he;simp at he;subst he;rfl
      walk_nrm
      refine laW ?_
      (refine l_cond T false (by simp [Act.eval] <;> omega) ?_;simp only [if_true,if_false,Bool.false_eq_true,↓reduceIte])
      refine laW ?_
      refine l_ret T ?_
      refine l_leave T Try.func96 rfl (resultsC_none rfl _) ?_
      have r3:RW (c0 gb 1) (w0.setCell (c0 gb 1) (.int .u64 0)) w₂:=by
        have r4:RW (c0 gb 1) (w₁.setCell (c0 gb 1) (.int .u64 0)) w₂:=r'
        obtain ⟨d,rfl⟩:=rw_zero HC0 r4 HC
        rw [setCell_set]
        rcases r0 with ⟨d1,rfl⟩ | ⟨n1,n2,d1,h1,h2,rfl⟩
        · exact .inl ⟨d,rfl⟩
        · refine .inl ⟨d,?_⟩
          show ((w0.setCell (c0 gb 1) _).setCell (c0 gb 1) _).at d=_
          rw [setCell_set]
      exact O.rely _ _ _ _ H r3
    case H2 =>
      intro w₂ k r2 hc2 hk hk2
      walk_nrm
      refine laW ?_
      refine l_ret T ?_
      (refine l_leave T Try.func128 rfl (resultsC_tmp rfl _) ?_;rw [bk_finish rfl];walk_nrm)
      refine laW ?_
      (refine l_cond T false rfl ?_;simp only [if_true,if_false,Bool.false_eq_true,↓reduceIte])
      refine laW ?_
      refine l_inBlock T ?_
      refine l_inLoop T ?_
      have hkm:k≤m:=rw_le hc' r2 hc2
      have hmn:m≤n:=hm
      have key:=ih k (by omega) w₂ (r0.trans r2) hc2
      simp only [waitBody,seqL,seqR,blkOf,loopOf,Option.getD_some,Try.f96] at key
      exact key _ _ _ _ _ _ _ _ _ _ _ _ _ _ _ _ _ _ _ _ _ _ _ _ _ _ _ _ _ _ _ _ _ _ _ _ _ _ _ _ _ _ _ _ _ _ _ _ _ _ _ _ _ _ _ _ _ _ _ _ _ _ _ _ _ _ _ _ _ _ _ _ _ _ _ _ _ _ _ _ _ _ _
end
end Go.Proofs.Ytndppafplgilbaa
namespace Go.Proofs.Ytndppafplgilbaa
open Go Go.Conc Go.RowKit
open Go.ConcN (sumTo upd sumTo_upd upd_ne upd_same)
section
variable {Post:Value→World→Prop} {gb:Nat}
set_option maxRecDepth 100000 in
set_option maxHeartbeats 4000000 in
theorem wait_calls {K:World→Prop} {S:Nat→Loc→Prop} {Shun:Loc→Prop} {R0:Nat→Role} {A0:Nat→Bool} {sn:Nat} (hl:∀ x,x≠0→R0 x=.done∨R0 x=.leave) (hA0:A0 0=false) (hbd:∀ i,sn≤i→A0 i=false) (hKsm:∀ w x,K w→K (w.setCell ⟨gb,2,none⟩ x)) (hSm:Shun (.cell ⟨gb,2,none⟩)) (w0:World) (N:Nat) (hN1:N < 1000) (hN:w0.cell? (c0 gb 1)=some (.int .u64 (N * 4294967296:Nat))) (hsm:w0.cell? ⟨gb,2,none⟩=some (.int .u32 0)∧w0.frozen? ⟨gb,2,none⟩=false) :
    CallsL Try.prog (LM Try.prog Post) (fun _=>True) 96 #[.pointer (some (c0 gb 1))] ⟨K,S,Shun,c0 gb 1,R0,A0,sn,0⟩ w0 (fun r s' w'=>r=.inl (.tuple #[])∧s'=⟨K,S,Shun,c0 gb 1,fun _=>.leave,fun _=>false,sn,0⟩∧w'=w0.setCell (c0 gb 1) (.int .u64 0)):=by
  intro c cs _ hkd hcm h1 _
  have O:=ownM Try.prog Post
  have T:=O.toCtl
  have key:=wait_round (Post:=Post) (cs:=cs) (c:=c) hl hA0 hbd hKsm hSm w0 N hN1 hN hsm (h1 _ _ _ ⟨rfl,rfl,rfl⟩) N w0 RW.refl hN
  simp only [waitBody,seqL,seqR,blkOf,loopOf,Option.getD_some,Try.f96] at key
  rw [enter_bk Try.func96 rfl]
  walk_nrmf Try.f96
  refine laW ?_
  (refine l_cond T true rfl ?_;simp only [if_true,if_false,Bool.false_eq_true,↓reduceIte])
  refine laW ?_
  refine LM.mark rfl ?_ ⟨_,hN⟩ (fun w _ _=>stepG_mark0 .disable (by simp) rfl rfl (by simp [bk]) rfl Try.func112 (by kernel_rfl) (by kernel_rfl) (by kernel_rfl) (by kernel_rfl)) ?_
  · intro e he;simp at he;subst he;rfl
  walk_nrm
  refine laW ?_
  refine l_block T ?_
  refine l_loop T ?_
  exact key _ _ _ _ _ _ _ _ _ _ _ _ _ _ _ _ _ _ _ _ _ _ _ _ _ _ _ _ _ _ _ _ _ _ _ _ _ _ _ _ _ _ _ _ _ _ _ _ _ _ _ _ _ _ _ _ _ _ _ _ _ _ _ _ _ _ _ _ _ _ _ _ _ _ _ _ _ _ _ _ _ _ _
end
end Go.Proofs.Ytndppafplgilbaa
