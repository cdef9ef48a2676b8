/-
  larchlaw04.BatonThins returns true for every input. No condition. (Part 29 of 49; joined by program.)
-/
import Derived.Test.YtndppafplgilbaaL27
import Derived.Test.YtndppafplgilbaaL18
set_option linter.unusedVariables false
set_option linter.unusedSimpArgs false
set_option linter.unusedSectionVars false
set_option maxRecDepth 100000
namespace Go.Proofs.Ytndppafplgilbaa
open Go Go.Conc Go.RowKit
open Go.ConcN (sumTo upd sumTo_upd upd_ne upd_same)
abbrev toldT:TypeId:=36
abbrev boolT:TypeId:=4
theorem info_bool:(Try.prog.info? boolT).map (fun i=>(i.zero,i.size,i.bytes))=some (some (.bool false),1,1):=by kernel_rfl
noncomputable def closeLoop:Code:=loopOf (blkOf (seqR (seqL (seqR (seqR (Try.f55.body.getD .skip))))))
noncomputable def closeR5:Code:=seqL (seqR (blkOf (seqL (seqR (seqR closeLoop)))))
noncomputable def closeR9:Code:=seqR (seqR (seqR (blkOf (seqL (seqR (seqR closeLoop))))))
section
variable {C:Cli} {Post:Value→World→Prop} {gm:Gm} {Γ:C.G} {keep dead:Nat→Prop} {w:World} {tb:Nat}
set_option maxRecDepth 100000 in
set_option maxHeartbeats 8000000 in
theorem close_r5 {k:List Item} {cs:List Frame} {kb:Nat} {b:Bool} {R:World→Prop} {Z:Nat→Prop} {tc:Array Value} {rv:Value} {xs:List Value} {y0 y1 y2 y4 y6 y7 y8 y9 y10 y11 y12 y13 y14 y15 y16 y17 y18 y19 y20 y21 y22 y23 y24 y25 y26 y27 y28 y29 y30 y31 y32 y33 y34 y35 y36 y37 y38 y39 y40 y41 y42 y43 y44 y45 y46 y47 y48 y49 y50 y51 y52 y53:Value} (hxs:xs.length < 1000) (hkg:kb≠gm.gb) (hns:¬ ShunOf (gm.gb :: gm.old) (.cell ⟨kb,3,none⟩)) (hRb:∀ w,R w→w.cell? ⟨kb,3,none⟩=some (.bool b)) (hA:AppW C wkT wkP Try.prog Post gm Γ keep dead R Z tb 1 tc toldT boolT rv xs.length xs (.bool (!b)) false false false undef undef w)
    (H:∀ (w':World) (x6 x7:Value),(Main C wkT wkP Try.prog Post gm Γ keep dead w'∧R w'∧w'.heap[tb]?=some (.cells (tc.setIfInBounds 1 x7) toldT (0,0))∧w'.ownsRow 0 boolT 1 x7 (xs.length + 1) (xs ++ [.bool (!b)])∧∀ g,x7.ownBlock=some g→Own C gm Γ keep g∧g≠tb∧(rv.ownBlock=some g∨¬ Z g))→∀ z0 z1 z2 z3 z4 z5 z6 z7 z8 z9:Value,LM Try.prog Post (sitG gm) (G ((bk 55 .normal).at ⟨#[y0,y1,y2,.pointer (some (c0 tb 0)),y4,.pointer (some (c0 kb 0)),y6,y7,y8,y9,y10,y11,y12,y13,y14,y15,y16,y17,y18,y19,z0,z1,z2,z3,z4,z5,z6,z7,z8,z9,y30,y31,y32,y33,y34,y35,y36,y37,y38,y39,y40,y41,y42,y43,y44,y45,y46,y47,y48,y49,y50,y51,y52,y53],[]⟩ k) cs) w') :
    LM Try.prog Post (sitG gm) (G ((bk 55 .normal).at ⟨#[y0,y1,y2,.pointer (some (c0 tb 0)),y4,.pointer (some (c0 kb 0)),y6,y7,y8,y9,y10,y11,y12,y13,y14,y15,y16,y17,y18,y19,y20,y21,y22,y23,y24,y25,y26,y27,y28,y29,y30,y31,y32,y33,y34,y35,y36,y37,y38,y39,y40,y41,y42,y43,y44,y45,y46,y47,y48,y49,y50,y51,y52,y53],[]⟩ (.code closeR5 :: k)) cs) w:=by
  have O:=ownM Try.prog Post
  have T:=O.toCtl
  have hq:(Try.prog.funcs[55]?).any (·.norace)=false:=by rw [Try.func55];rfl
  obtain ⟨ti,hsi,hsz1,hsz2,hsz3⟩:=info_parts info_bool
  simp only [closeR5,closeLoop,blkOf,loopOf,seqL,seqR,Option.getD_some,Try.f55]
  refine l_draw O rfl [[],[0],[],[2],[3],[4],[5],[6],[1,7],[0,1,2,3,4,5,6,7,8],[9,8,0,1,2,3,4,5,6,7]] (by kernel_rfl) (fun listed s' a w'=>∃ (b0 b1 b2 b3 b4 b5 b6 b7 b8 b9 b10:Bool) (x6:Value) (x7:Value),listed=#[b0,b1,b2,b3,b4,b5,b6,b7,b8,b9,b10]∧s'=sitG gm∧a=⟨#[y0,y1,y2,.pointer (some (c0 tb 0)),y4,.pointer (some (c0 kb 0)),y6,y7,y8,y9,y10,y11,y12,y13,y14,y15,y16,y17,y18,y19,(bif b0 then .pointer (some ⟨tb,1,none⟩) else y20),(bif b1 then rv else y21),(bif b2 then .pointer (some (c0 kb 0)) else y22),(bif b3 then .pointer (some (c0 kb 0)) else y23),(bif b4 then .pointer (some ⟨kb,3,none⟩) else y24),(bif b5 then .bool b else y25),(bif b6 then .bool (!b) else y26),(bif b7 then x6 else y27),(bif b8 then x7 else y28),(bif b9 then .pointer (some ⟨tb,1,none⟩) else y29),y30,y31,y32,y33,y34,y35,y36,y37,y38,y39,y40,y41,y42,y43,y44,y45,y46,y47,y48,y49,y50,y51,y52,y53],[]⟩∧((b8=true→b1=true)∧(b8=true→b7=true)∧(b10=true→b8=true))∧AppW C wkT wkP Try.prog Post gm Γ keep dead R Z tb 1 tc toldT boolT rv xs.length xs (.bool (!b)) b7 b8 b10 x6 x7 w') ?init ?fin ?step
  case init=>exact ⟨false,false,false,false,false,false,false,false,false,false,false,undef,undef,rfl,rfl,rfl,⟨fun h=>(by cases h),fun h=>(by cases h),fun h=>(by cases h)⟩,hA⟩
  case fin =>
    rintro s' a w' ⟨b0,b1,b2,b3,b4,b5,b6,b7,b8,b9,b10,x6,x7,hl,rfl,rfl,hc,hW⟩
    have hl':(#[true,true,true,true,true,true,true,true,true,true,true]:Array Bool)=#[b0,b1,b2,b3,b4,b5,b6,b7,b8,b9,b10]:=hl
    simp only [Array.mk.injEq,List.cons.injEq,and_true] at hl'
    obtain ⟨rfl,rfl,rfl,rfl,rfl,rfl,rfl,rfl,rfl,rfl,rfl⟩:=hl'
    simp only [cond_true,cond_false]
    exact H w' undef _ hW.done _ _ _ _ _ _ _ _ _ _
  case step =>
    rintro listed s' a w' i rest ⟨b0,b1,b2,b3,b4,b5,b6,b7,b8,b9,b10,x6,x7,hl,rfl,rfl,hc,hW⟩ hi hf hd hrs hn
    subst hl
    have hi':i < 11:=hi
    have:i=0∨i=1∨i=2∨i=3∨i=4∨i=5∨i=6∨i=7∨i=8∨i=9∨i=10:=by omega
    rcases this with rfl | rfl | rfl | rfl | rfl | rfl | rfl | rfl | rfl | rfl | rfl
    · have hbf:b0=false:=hf
      subst hbf
      simp only [cond_true,cond_false]
      refine l_val T (v:=.pointer (some ⟨tb,1,none⟩)) (by simp) rfl (by rfl) (fun w=>by go_simp) (fun w=>by simp [go_sem]) ?_
      exact hn _ _ _ ⟨true,b1,b2,b3,b4,b5,b6,b7,b8,b9,b10,x6,x7,rfl,rfl,rfl,hc,hW⟩
    · have hbf:b1=false:=hf
      subst hbf
      have hbt0:b0=true:=hd 0 (by simp)
      subst hbt0
      simp only [cond_true,cond_false]
      have hA:b8=false:=by
        cases b8 with
        | false=>rfl
        | true=>exact absurd (hc.1 rfl) (by simp)
      subst hA
      have hS:b10=false:=by
        cases b10 with
        | false=>rfl
        | true=>exact absurd (hc.2.2 rfl) (by simp)
      subst hS
      refine l_load O (by simp) rfl (by rfl) (p:=⟨tb,1,none⟩) (x:=rv) (hW.c rfl) (.inl fun e=>hW.tbO.H (.inl e)) (fun h=>hW.tbO.H (shun_H (g:=gm) h)) (fun w₁ hc₁=>⟨by go_simp,by simp [listed,go_sem,hc₁];exact seen_cell hq _ _ _⟩) ?_
      exact hn _ _ _ ⟨true,true,b2,b3,b4,b5,b6,b7,false,b9,false,x6,x7,rfl,rfl,rfl,⟨fun h=>(by cases h),fun h=>(by cases h),fun h=>(by cases h)⟩,hW⟩
    · have hbf:b2=false:=hf
      subst hbf
      simp only [cond_true,cond_false]
      refine l_val T (v:=.pointer (some (c0 kb 0))) (by simp) rfl (by rfl) (fun w=>by go_simp) (fun w=>by simp [go_sem]) ?_
      exact hn _ _ _ ⟨b0,b1,true,b3,b4,b5,b6,b7,b8,b9,b10,x6,x7,rfl,rfl,rfl,hc,hW⟩
    · have hbf:b3=false:=hf
      subst hbf
      have hbt2:b2=true:=hd 2 (by simp)
      subst hbt2
      simp only [cond_true,cond_false]
      refine l_val T (v:=.pointer (some (c0 kb 0))) (by simp) rfl (by rfl) (fun w=>by go_simp) (fun w=>by simp [go_sem]) ?_
      exact hn _ _ _ ⟨b0,b1,true,true,b4,b5,b6,b7,b8,b9,b10,x6,x7,rfl,rfl,rfl,hc,hW⟩
    · have hbf:b4=false:=hf
      subst hbf
      have hbt3:b3=true:=hd 3 (by simp)
      subst hbt3
      simp only [cond_true,cond_false]
      refine l_val T (v:=.pointer (some ⟨kb,3,none⟩)) (by simp) rfl (by rfl) (fun w=>by go_simp) (fun w=>by simp [go_sem]) ?_
      exact hn _ _ _ ⟨b0,b1,b2,true,true,b5,b6,b7,b8,b9,b10,x6,x7,rfl,rfl,rfl,hc,hW⟩
    · have hbf:b5=false:=hf
      subst hbf
      have hbt4:b4=true:=hd 4 (by simp)
      subst hbt4
      simp only [cond_true,cond_false]
      refine l_load O (by simp) rfl (by rfl) (p:=⟨kb,3,none⟩) (x:=.bool b) (hRb _ hW.r) (.inl hkg) (hns) (fun w₁ hc₁=>⟨by go_simp,by simp [listed,go_sem,hc₁];exact seen_cell hq _ _ _⟩) ?_
      exact hn _ _ _ ⟨b0,b1,b2,b3,true,true,b6,b7,b8,b9,b10,x6,x7,rfl,rfl,rfl,hc,hW⟩
    · have hbf:b6=false:=hf
      subst hbf
      have hbt5:b5=true:=hd 5 (by simp)
      subst hbt5
      simp only [cond_true,cond_false]
      refine l_val T (v:=.bool (!b)) (by simp) rfl (by rfl) (fun w=>by go_simp) (fun w=>by simp [go_sem]) ?_
      exact hn _ _ _ ⟨b0,b1,b2,b3,b4,true,true,b7,b8,b9,b10,x6,x7,rfl,rfl,rfl,hc,hW⟩
    · have hbf:b7=false:=hf
      subst hbf
      have hbt6:b6=true:=hd 6 (by simp)
      subst hbt6
      simp only [cond_true,cond_false]
      have hA:b8=false:=by
        cases b8 with
        | false=>rfl
        | true=>exact absurd (hc.2.1 rfl) (by simp)
      subst hA
      refine l_mask O (F:=fun _=>false) (fun f h=>by cases h) hidesG (by simp) hW.MW.hid rfl (by rfl) (by kernel_rfl) (R:=fun v x v'=>x=.slice (some ⟨v.heap.size,0,none⟩) 1 1∧v'=v.alloc (.cells #[.bool (!b)] boolT)) (fun v M=>?_) (fun v x v' w1 M hR A=>?_)
      · refine ⟨_,_,?_,rfl,rfl⟩
        go_simp
      obtain ⟨rfl,rfl⟩:=hR
      exact hn _ _ _ ⟨b0,b1,b2,b3,b4,b5,true,true,false,b9,b10,_,x7,rfl,rfl,rfl,⟨fun h=>(by cases h),fun _=>rfl,hc.2.2⟩,hW.built M A⟩
    · have hbf:b8=false:=hf
      subst hbf
      have hbt1:b1=true:=hd 1 (by simp)
      subst hbt1
      have hbt7:b7=true:=hd 7 (by simp)
      subst hbt7
      simp only [cond_true,cond_false]
      have hS:b10=false:=by
        cases b10 with
        | false=>rfl
        | true=>exact absurd (hc.2.2 rfl) (by simp)
      subst hS
      obtain ⟨nb,rfl,hnb,hnbH⟩:=hW.s1 rfl rfl
      have hrow:=hW.row rfl
      have hl3:([.bool (!b)]:List Value).length=1 * 1:=rfl
      refine l_append O (F:=fun _=>false) (fun f h=>by cases h) hidesG (by simp) hW.MW.hid rfl (by rfl) rfl Try.underlying29 hsi hsz1 hsz2 hsz3 (by rfl) (by decide) (v:=rv) (by simp [Act.eval]) hrow (fun g hg=>(hW.rvO g hg).1.H) (ad:=⟨nb,0,none⟩) (news:=[.bool (!b)]) (c:=1) (by simp [Act.eval]) hl3 (fun j u hj=>?_) hnbH (fun u hu=>?_) (by decide) (by simp [maxLen];omega) (by omega) (fun g cap w1 hown G1 hg hgH hgl=>?_)
      · have e:(⟨nb,0,none⟩:Addr).add j=⟨nb,j,none⟩:=by simp [Addr.add];omega
        rw [e,cell_of (a:=⟨nb,j,none⟩) hnb rfl]
        simpa using hj
      · simp only [List.mem_singleton] at hu
        subst hu;rfl
      exact hn _ _ _ ⟨b0,true,b2,b3,b4,b5,b6,true,true,b9,false,_,_,rfl,rfl,rfl,⟨fun _=>rfl,fun _=>rfl,fun h=>(by cases h)⟩,hW.appended hown G1 hg⟩
    · have hbf:b9=false:=hf
      subst hbf
      have hbt0:b0=true:=hd 0 (by simp)
      subst hbt0
      have hbt1:b1=true:=hd 1 (by simp)
      subst hbt1
      have hbt2:b2=true:=hd 2 (by simp)
      subst hbt2
      have hbt3:b3=true:=hd 3 (by simp)
      subst hbt3
      have hbt4:b4=true:=hd 4 (by simp)
      subst hbt4
      have hbt5:b5=true:=hd 5 (by simp)
      subst hbt5
      have hbt6:b6=true:=hd 6 (by simp)
      subst hbt6
      have hbt7:b7=true:=hd 7 (by simp)
      subst hbt7
      have hbt8:b8=true:=hd 8 (by simp)
      subst hbt8
      simp only [cond_true,cond_false]
      refine l_val T (v:=.pointer (some ⟨tb,1,none⟩)) (by simp) rfl (by rfl) (fun w=>by go_simp) (fun w=>by simp [go_sem]) ?_
      exact hn _ _ _ ⟨true,true,true,true,true,true,true,true,true,true,b10,x6,x7,rfl,rfl,rfl,hc,hW⟩
    · have hbf:b10=false:=hf
      subst hbf
      have hbt9:b9=true:=hd 9 (by simp)
      subst hbt9
      have hbt8:b8=true:=hd 8 (by simp)
      subst hbt8
      have hbt0:b0=true:=hd 0 (by simp)
      subst hbt0
      have hbt1:b1=true:=hd 1 (by simp)
      subst hbt1
      have hbt2:b2=true:=hd 2 (by simp)
      subst hbt2
      have hbt3:b3=true:=hd 3 (by simp)
      subst hbt3
      have hbt4:b4=true:=hd 4 (by simp)
      subst hbt4
      have hbt5:b5=true:=hd 5 (by simp)
      subst hbt5
      have hbt6:b6=true:=hd 6 (by simp)
      subst hbt6
      have hbt7:b7=true:=hd 7 (by simp)
      subst hbt7
      simp only [cond_true,cond_false]
      obtain ⟨g7,cap7,e7,_⟩:=hW.s2 rfl
      subst e7
      have htb:=(hW.tbc rfl).1
      obtain ⟨q1,q2,q3,q4,q5⟩:=own_store hW.MW.wf hW.tbO.H hW.tbO.chan 1 (.slice (some ⟨g7,0,none⟩) (xs.length + 1) cap7)
      refine l_store O (by simp) rfl (by rfl) (p:=⟨tb,1,none⟩) (x:=rv) (y:=.slice (some ⟨g7,0,none⟩) (xs.length + 1) cap7) (hW.c rfl) (hW.f rfl) q1 q2 q3 q4 q5 (fun w₁ hc₁ hf₁=>⟨?_,?_⟩) ?_
      · go_simp
      · simp [listed,go_sem,hc₁,hf₁]
        rw [events_store Try.prog w₁ #[] _ (.slice (some ⟨g7,0,none⟩) (xs.length + 1) cap7) .plain rfl]
        simp only [hc₁,hf₁]
        exact seen_cell hq _ _ _
      exact hn _ _ _ ⟨true,true,true,true,true,true,true,true,true,true,true,_,_,rfl,rfl,rfl,⟨fun _=>rfl,fun _=>rfl,fun _=>rfl⟩,hW.stored⟩
set_option maxRecDepth 100000 in
set_option maxHeartbeats 8000000 in
theorem close_r9 {k:List Item} {cs:List Frame} {kb:Nat} {b:Bool} {R:World→Prop} {Z:Nat→Prop} {tc:Array Value} {rv:Value} {xs:List Value} {y0 y1 y2 y4 y6 y7 y8 y9 y10 y11 y12 y13 y14 y15 y16 y17 y18 y19 y20 y21 y22 y23 y24 y25 y26 y27 y28 y29 y30 y31 y32 y33 y34 y35 y36 y37 y38 y39 y40 y41 y42 y43 y44 y45 y46 y47 y48 y49 y50 y51 y52 y53:Value} (hxs:xs.length < 1000) (hkg:kb≠gm.gb) (hns:¬ ShunOf (gm.gb :: gm.old) (.cell ⟨kb,5,none⟩)) (hRb:∀ w,R w→w.cell? ⟨kb,5,none⟩=some (.bool b)) (hA:AppW C wkT wkP Try.prog Post gm Γ keep dead R Z tb 2 tc toldT boolT rv xs.length xs (.bool b) false false false undef undef w)
    (H:∀ (w':World) (x6 x7:Value),(Main C wkT wkP Try.prog Post gm Γ keep dead w'∧R w'∧w'.heap[tb]?=some (.cells (tc.setIfInBounds 2 x7) toldT (0,0))∧w'.ownsRow 0 boolT 1 x7 (xs.length + 1) (xs ++ [.bool b])∧∀ g,x7.ownBlock=some g→Own C gm Γ keep g∧g≠tb∧(rv.ownBlock=some g∨¬ Z g))→∀ z0 z1 z2 z3 z4 z5 z6 z7 z8:Value,LM Try.prog Post (sitG gm) (G ((bk 55 .normal).at ⟨#[y0,y1,y2,.pointer (some (c0 tb 0)),y4,.pointer (some (c0 kb 0)),y6,y7,y8,y9,y10,y11,y12,y13,y14,y15,y16,y17,y18,y19,y20,y21,y22,y23,y24,y25,y26,y27,y28,y29,y30,y31,y32,y33,y34,y35,y36,y37,y38,z0,z1,z2,z3,z4,z5,z6,z7,z8,y48,y49,y50,y51,y52,y53],[]⟩ k) cs) w') :
    LM Try.prog Post (sitG gm) (G ((bk 55 .normal).at ⟨#[y0,y1,y2,.pointer (some (c0 tb 0)),y4,.pointer (some (c0 kb 0)),y6,y7,y8,y9,y10,y11,y12,y13,y14,y15,y16,y17,y18,y19,y20,y21,y22,y23,y24,y25,y26,y27,y28,y29,y30,y31,y32,y33,y34,y35,y36,y37,y38,y39,y40,y41,y42,y43,y44,y45,y46,y47,y48,y49,y50,y51,y52,y53],[]⟩ (.code closeR9 :: k)) cs) w:=by
  have O:=ownM Try.prog Post
  have T:=O.toCtl
  have hq:(Try.prog.funcs[55]?).any (·.norace)=false:=by rw [Try.func55];rfl
  obtain ⟨ti,hsi,hsz1,hsz2,hsz3⟩:=info_parts info_bool
  simp only [closeR9,closeLoop,blkOf,loopOf,seqL,seqR,Option.getD_some,Try.f55]
  refine l_draw O rfl [[],[0],[],[2],[3],[4],[5],[1,6],[0,1,2,3,4,5,6,7],[8,7,0,1,2,3,4,5,6]] (by kernel_rfl) (fun listed s' a w'=>∃ (b0 b1 b2 b3 b4 b5 b6 b7 b8 b9:Bool) (x6:Value) (x7:Value),listed=#[b0,b1,b2,b3,b4,b5,b6,b7,b8,b9]∧s'=sitG gm∧a=⟨#[y0,y1,y2,.pointer (some (c0 tb 0)),y4,.pointer (some (c0 kb 0)),y6,y7,y8,y9,y10,y11,y12,y13,y14,y15,y16,y17,y18,y19,y20,y21,y22,y23,y24,y25,y26,y27,y28,y29,y30,y31,y32,y33,y34,y35,y36,y37,y38,(bif b0 then .pointer (some ⟨tb,2,none⟩) else y39),(bif b1 then rv else y40),(bif b2 then .pointer (some (c0 kb 0)) else y41),(bif b3 then .pointer (some (c0 kb 0)) else y42),(bif b4 then .pointer (some ⟨kb,5,none⟩) else y43),(bif b5 then .bool b else y44),(bif b6 then x6 else y45),(bif b7 then x7 else y46),(bif b8 then .pointer (some ⟨tb,2,none⟩) else y47),y48,y49,y50,y51,y52,y53],[]⟩∧((b7=true→b1=true)∧(b7=true→b6=true)∧(b9=true→b7=true))∧AppW C wkT wkP Try.prog Post gm Γ keep dead R Z tb 2 tc toldT boolT rv xs.length xs (.bool b) b6 b7 b9 x6 x7 w') ?init ?fin ?step
  case init=>exact ⟨false,false,false,false,false,false,false,false,false,false,undef,undef,rfl,rfl,rfl,⟨fun h=>(by cases h),fun h=>(by cases h),fun h=>(by cases h)⟩,hA⟩
  case fin =>
    rintro s' a w' ⟨b0,b1,b2,b3,b4,b5,b6,b7,b8,b9,x6,x7,hl,rfl,rfl,hc,hW⟩
    have hl':(#[true,true,true,true,true,true,true,true,true,true]:Array Bool)=#[b0,b1,b2,b3,b4,b5,b6,b7,b8,b9]:=hl
    simp only [Array.mk.injEq,List.cons.injEq,and_true] at hl'
    obtain ⟨rfl,rfl,rfl,rfl,rfl,rfl,rfl,rfl,rfl,rfl⟩:=hl'
    simp only [cond_true,cond_false]
    exact H w' undef _ hW.done _ _ _ _ _ _ _ _ _
  case step =>
    rintro listed s' a w' i rest ⟨b0,b1,b2,b3,b4,b5,b6,b7,b8,b9,x6,x7,hl,rfl,rfl,hc,hW⟩ hi hf hd hrs hn
    subst hl
    have hi':i < 10:=hi
    have:i=0∨i=1∨i=2∨i=3∨i=4∨i=5∨i=6∨i=7∨i=8∨i=9:=by omega
    rcases this with rfl | rfl | rfl | rfl | rfl | rfl | rfl | rfl | rfl | rfl
    · have hbf:b0=false:=hf
      subst hbf
      simp only [cond_true,cond_false]
      refine l_val T (v:=.pointer (some ⟨tb,2,none⟩)) (by simp) rfl (by rfl) (fun w=>by go_simp) (fun w=>by simp [go_sem]) ?_
      exact hn _ _ _ ⟨true,b1,b2,b3,b4,b5,b6,b7,b8,b9,x6,x7,rfl,rfl,rfl,hc,hW⟩
    · have hbf:b1=false:=hf
      subst hbf
      have hbt0:b0=true:=hd 0 (by simp)
      subst hbt0
      simp only [cond_true,cond_false]
      have hA:b7=false:=by
        cases b7 with
        | false=>rfl
        | true=>exact absurd (hc.1 rfl) (by simp)
      subst hA
      have hS:b9=false:=by
        cases b9 with
        | false=>rfl
        | true=>exact absurd (hc.2.2 rfl) (by simp)
      subst hS
      refine l_load O (by simp) rfl (by rfl) (p:=⟨tb,2,none⟩) (x:=rv) (hW.c rfl) (.inl fun e=>hW.tbO.H (.inl e)) (fun h=>hW.tbO.H (shun_H (g:=gm) h)) (fun w₁ hc₁=>⟨by go_simp,by simp [listed,go_sem,hc₁];exact seen_cell hq _ _ _⟩) ?_
      exact hn _ _ _ ⟨true,true,b2,b3,b4,b5,b6,false,b8,false,x6,x7,rfl,rfl,rfl,⟨fun h=>(by cases h),fun h=>(by cases h),fun h=>(by cases h)⟩,hW⟩
    · have hbf:b2=false:=hf
      subst hbf
      simp only [cond_true,cond_false]
      refine l_val T (v:=.pointer (some (c0 kb 0))) (by simp) rfl (by rfl) (fun w=>by go_simp) (fun w=>by simp [go_sem]) ?_
      exact hn _ _ _ ⟨b0,b1,true,b3,b4,b5,b6,b7,b8,b9,x6,x7,rfl,rfl,rfl,hc,hW⟩
    · have hbf:b3=false:=hf
      subst hbf
      have hbt2:b2=true:=hd 2 (by simp)
      subst hbt2
      simp only [cond_true,cond_false]
      refine l_val T (v:=.pointer (some (c0 kb 0))) (by simp) rfl (by rfl) (fun w=>by go_simp) (fun w=>by simp [go_sem]) ?_
      exact hn _ _ _ ⟨b0,b1,true,true,b4,b5,b6,b7,b8,b9,x6,x7,rfl,rfl,rfl,hc,hW⟩
    · have hbf:b4=false:=hf
      subst hbf
      have hbt3:b3=true:=hd 3 (by simp)
      subst hbt3
      simp only [cond_true,cond_false]
      refine l_val T (v:=.pointer (some ⟨kb,5,none⟩)) (by simp) rfl (by rfl) (fun w=>by go_simp) (fun w=>by simp [go_sem]) ?_
      exact hn _ _ _ ⟨b0,b1,b2,true,true,b5,b6,b7,b8,b9,x6,x7,rfl,rfl,rfl,hc,hW⟩
    · have hbf:b5=false:=hf
      subst hbf
      have hbt4:b4=true:=hd 4 (by simp)
      subst hbt4
      simp only [cond_true,cond_false]
      refine l_load O (by simp) rfl (by rfl) (p:=⟨kb,5,none⟩) (x:=.bool b) (hRb _ hW.r) (.inl hkg) (hns) (fun w₁ hc₁=>⟨by go_simp,by simp [listed,go_sem,hc₁];exact seen_cell hq _ _ _⟩) ?_
      exact hn _ _ _ ⟨b0,b1,b2,b3,true,true,b6,b7,b8,b9,x6,x7,rfl,rfl,rfl,hc,hW⟩
    · have hbf:b6=false:=hf
      subst hbf
      have hbt5:b5=true:=hd 5 (by simp)
      subst hbt5
      simp only [cond_true,cond_false]
      have hA:b7=false:=by
        cases b7 with
        | false=>rfl
        | true=>exact absurd (hc.2.1 rfl) (by simp)
      subst hA
      refine l_mask O (F:=fun _=>false) (fun f h=>by cases h) hidesG (by simp) hW.MW.hid rfl (by rfl) (by kernel_rfl) (R:=fun v x v'=>x=.slice (some ⟨v.heap.size,0,none⟩) 1 1∧v'=v.alloc (.cells #[.bool b] boolT)) (fun v M=>?_) (fun v x v' w1 M hR A=>?_)
      · refine ⟨_,_,?_,rfl,rfl⟩
        go_simp
      obtain ⟨rfl,rfl⟩:=hR
      exact hn _ _ _ ⟨b0,b1,b2,b3,b4,true,true,false,b8,b9,_,x7,rfl,rfl,rfl,⟨fun h=>(by cases h),fun _=>rfl,hc.2.2⟩,hW.built M A⟩
    · have hbf:b7=false:=hf
      subst hbf
      have hbt1:b1=true:=hd 1 (by simp)
      subst hbt1
      have hbt6:b6=true:=hd 6 (by simp)
      subst hbt6
      simp only [cond_true,cond_false]
      have hS:b9=false:=by
        cases b9 with
        | false=>rfl
        | true=>exact absurd (hc.2.2 rfl) (by simp)
      subst hS
      obtain ⟨nb,rfl,hnb,hnbH⟩:=hW.s1 rfl rfl
      have hrow:=hW.row rfl
      have hl3:([.bool b]:List Value).length=1 * 1:=rfl
      refine l_append O (F:=fun _=>false) (fun f h=>by cases h) hidesG (by simp) hW.MW.hid rfl (by rfl) rfl Try.underlying29 hsi hsz1 hsz2 hsz3 (by rfl) (by decide) (v:=rv) (by simp [Act.eval]) hrow (fun g hg=>(hW.rvO g hg).1.H) (ad:=⟨nb,0,none⟩) (news:=[.bool b]) (c:=1) (by simp [Act.eval]) hl3 (fun j u hj=>?_) hnbH (fun u hu=>?_) (by decide) (by simp [maxLen];omega) (by omega) (fun g cap w1 hown G1 hg hgH hgl=>?_)
      · have e:(⟨nb,0,none⟩:Addr).add j=⟨nb,j,none⟩:=by simp [Addr.add];omega
        rw [e,cell_of (a:=⟨nb,j,none⟩) hnb rfl]
        simpa using hj
      · simp only [List.mem_singleton] at hu
        subst hu;rfl
      exact hn _ _ _ ⟨b0,true,b2,b3,b4,b5,true,true,b8,false,_,_,rfl,rfl,rfl,⟨fun _=>rfl,fun _=>rfl,fun h=>(by cases h)⟩,hW.appended hown G1 hg⟩
    · have hbf:b8=false:=hf
      subst hbf
      have hbt0:b0=true:=hd 0 (by simp)
      subst hbt0
      have hbt1:b1=true:=hd 1 (by simp)
      subst hbt1
      have hbt2:b2=true:=hd 2 (by simp)
      subst hbt2
      have hbt3:b3=true:=hd 3 (by simp)
      subst hbt3
      have hbt4:b4=true:=hd 4 (by simp)
      subst hbt4
      have hbt5:b5=true:=hd 5 (by simp)
      subst hbt5
      have hbt6:b6=true:=hd 6 (by simp)
      subst hbt6
      have hbt7:b7=true:=hd 7 (by simp)
      subst hbt7
      simp only [cond_true,cond_false]
      refine l_val T (v:=.pointer (some ⟨tb,2,none⟩)) (by simp) rfl (by rfl) (fun w=>by go_simp) (fun w=>by simp [go_sem]) ?_
      exact hn _ _ _ ⟨true,true,true,true,true,true,true,true,true,b9,x6,x7,rfl,rfl,rfl,hc,hW⟩
    · have hbf:b9=false:=hf
      subst hbf
      have hbt8:b8=true:=hd 8 (by simp)
      subst hbt8
      have hbt7:b7=true:=hd 7 (by simp)
      subst hbt7
      have hbt0:b0=true:=hd 0 (by simp)
      subst hbt0
      have hbt1:b1=true:=hd 1 (by simp)
      subst hbt1
      have hbt2:b2=true:=hd 2 (by simp)
      subst hbt2
      have hbt3:b3=true:=hd 3 (by simp)
      subst hbt3
      have hbt4:b4=true:=hd 4 (by simp)
      subst hbt4
      have hbt5:b5=true:=hd 5 (by simp)
      subst hbt5
      have hbt6:b6=true:=hd 6 (by simp)
      subst hbt6
      simp only [cond_true,cond_false]
      obtain ⟨g7,cap7,e7,_⟩:=hW.s2 rfl
      subst e7
      have htb:=(hW.tbc rfl).1
      obtain ⟨q1,q2,q3,q4,q5⟩:=own_store hW.MW.wf hW.tbO.H hW.tbO.chan 2 (.slice (some ⟨g7,0,none⟩) (xs.length + 1) cap7)
      refine l_store O (by simp) rfl (by rfl) (p:=⟨tb,2,none⟩) (x:=rv) (y:=.slice (some ⟨g7,0,none⟩) (xs.length + 1) cap7) (hW.c rfl) (hW.f rfl) q1 q2 q3 q4 q5 (fun w₁ hc₁ hf₁=>⟨?_,?_⟩) ?_
      · go_simp
      · simp [listed,go_sem,hc₁,hf₁]
        rw [events_store Try.prog w₁ #[] _ (.slice (some ⟨g7,0,none⟩) (xs.length + 1) cap7) .plain rfl]
        simp only [hc₁,hf₁]
        exact seen_cell hq _ _ _
      exact hn _ _ _ ⟨true,true,true,true,true,true,true,true,true,true,_,_,rfl,rfl,rfl,⟨fun _=>rfl,fun _=>rfl,fun _=>rfl⟩,hW.stored⟩
end
end Go.Proofs.Ytndppafplgilbaa
