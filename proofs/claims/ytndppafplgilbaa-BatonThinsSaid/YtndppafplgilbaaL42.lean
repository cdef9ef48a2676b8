/-
  larchlaw04.BatonThins returns true for every input. No condition. (Part 42 of 49; joined by program.)
-/
import Derived.Test.YtndppafplgilbaaL32
import Derived.Test.YtndppafplgilbaaL41
import Derived.Test.YtndppafplgilbaaL30
import Derived.Test.YtndppafplgilbaaL28
set_option linter.unusedVariables false
set_option linter.unusedSimpArgs false
set_option linter.unusedSectionVars false
set_option maxRecDepth 100000
namespace Go.Proofs.Ytndppafplgilbaa
open Go Go.Conc Go.RowKit
open Go.ConcN (sumTo upd sumTo_upd upd_ne upd_same)
noncomputable def playLoop:Code:=loopOf (blkOf (seqR (Try.f50.body.getD .skip)))
noncomputable def playR3:Code:=seqR (blkOf (seqL (seqR (seqR playLoop))))
section
variable {l:PL} {ok:l.Ok} {n0 gb iw:Nat} {k:Wk} {fb:Nat} {Post:Value→World→Prop} {gh:Gst (PlayCli l ok)} {Γ':PG} {A:Value} {ac:A4} {r:List A4} {at_ tb sb pb rb rowB:Nat} {w:World}
set_option maxRecDepth 100000 in
set_option maxHeartbeats 16000000 in
theorem play_r3 {kk:List Item} {cs:List Frame} (hiw:iw < l.n) (ha:ac.at_=at_) (hat:at_ < l.m) {sc:List A4} (hsm:sc∈l.scripts) (ham:ac∈sc) (nx:playNext l iw gh.Γ Γ') (hpos:Γ'.pos iw=some (ac :: r)) (hAv:Γ'.av iw=A) (hAs:∃ a n c,A=.slice a n c) (hS:SkF fb gb cs)
    (hpf:l.fix pb) (hpc:∀ w':World,w'.heap[pb]?=l.w0.heap[pb]?→w'.cell? ⟨pb,3,none⟩=some (.slice (some ⟨l.ansB,0,none⟩) l.n l.n)) (hrf:l.fix rb) (hrc:∀ w':World,w'.heap[rb]?=l.w0.heap[rb]?→w'.cell? ⟨rb,0,none⟩=some (.slice (some ⟨rowB,0,none⟩) l.m l.m)) (hof:l.fix rowB) (hnc:∀ w':World,w'.heap[rowB]?=l.w0.heap[rowB]?→w'.cell? ⟨rowB,at_,none⟩=some (.pointer (some (c0 (l.nb at_) 0)))) :
    ∀ y5 y6 y7 y9 y10 y11 y12 y13 y14 y15 y16 y17 y18 y19 y20 y21 y22 y23 y24 y25 y26 y27 y28 y29 y30 y31 y32 y33 y34 y35 y36 y37:Value,(∀ (s':Gst (PlayCli l ok)) (w':World) (Γ'':PG),playNext l iw s'.Γ Γ''→Run (PlayCli l ok) n0 gb iw k fb s' Γ'' w'→Γ''.pos iw=some r→∀ z18 z19 z20 z21 z22 z23 z24 z25 z26 z27 z28 z29 z30 z31 z32 z33 z34 z35 z36:Value,LC (PlayCli l ok) n0 gb iw k Post s' (G ((bk 50 .normal).at ⟨#[.int .i64 (iw:Int),.iface wkP (.pointer (some (c0 k.blk 0))),.pointer (some (c0 sb 0)),.pointer (some (c0 pb 0)),.pointer (some (c0 rb 0)),y5,y6,y7,.pointer (some (c0 tb 0)),y9,y10,y11,y12,y13,y14,y15,y16,y17,z18,z19,z20,z21,z22,z23,z24,z25,z26,z27,z28,z29,z30,z31,z32,z33,z34,z35,z36,y37],[]⟩ kk) cs) w')→Ph l ok n0 gb iw k fb gh Γ' A ac r at_ tb 0 y33 y34 y35 gh w→LC (PlayCli l ok) n0 gb iw k Post gh (G ((bk 50 .normal).at ⟨#[.int .i64 (iw:Int),.iface wkP (.pointer (some (c0 k.blk 0))),.pointer (some (c0 sb 0)),.pointer (some (c0 pb 0)),.pointer (some (c0 rb 0)),y5,y6,y7,.pointer (some (c0 tb 0)),y9,y10,y11,y12,y13,y14,y15,y16,y17,y18,y19,y20,y21,y22,y23,y24,y25,y26,y27,y28,y29,y30,y31,y32,y33,y34,y35,y36,y37],[]⟩ (.code playR3 :: kk)) cs) w:=by
  intro y5 y6 y7 y9 y10 y11 y12 y13 y14 y15 y16 y17 y18 y19 y20 y21 y22 y23 y24 y25 y26 y27 y28 y29 y30 y31 y32 y33 y34 y35 y36 y37 H hP0
  have O:=ownK (PlayCli l ok) n0 iw k Try.prog Post (KontC (PlayCli l ok) wkT wkP gb iw k Try.prog Post (HomeC (PlayCli l ok) n0 gb iw k Post))
  have T:=O.toCtl
  have hq:(Try.prog.funcs[50]?).any (·.norace)=false:=by rw [Try.func50];rfl
  obtain ⟨i0,hi0,hz0,hz1,hz2⟩:=info_parts info_int
  obtain ⟨Aa,An,Ac,eA⟩:=hAs
  subst eA
  simp only [playR3,playLoop,blkOf,loopOf,seqL,seqR,Option.getD_some,Try.f50]
  refine l_draw O rfl [[],[0],[],[],[3],[],[4,5],[6],[],[],[9],[8,10],[11],[],[],[12,13,14],[15],[7,16,15],[1,2,0,3,4,5,6,7,8,9,10,11,12,13,14,15,16,17],[18,17,0,1,2,3,4,5,6,7,8,9,10,11,12,13,14,15,16]] (by kernel_rfl) (fun listed s' a w'=>∃ (b0 b1 b2 b3 b4 b5 b6 b7 b8 b9 b10 b11 b12 b13 b14 b15 b16 b17 b18 b19:Bool) (p:Nat) (x33:Value) (x34:Value) (x35:Value),listed=#[b0,b1,b2,b3,b4,b5,b6,b7,b8,b9,b10,b11,b12,b13,b14,b15,b16,b17,b18,b19]∧a=⟨#[.int .i64 (iw:Int),.iface wkP (.pointer (some (c0 k.blk 0))),.pointer (some (c0 sb 0)),.pointer (some (c0 pb 0)),.pointer (some (c0 rb 0)),y5,y6,y7,.pointer (some (c0 tb 0)),y9,y10,y11,y12,y13,y14,y15,y16,y17,(bif b0 then .pointer (some ⟨pb,3,none⟩) else y18),(bif b1 then .slice (some ⟨l.ansB,0,none⟩) l.n l.n else y19),(bif b2 then .int .i64 (iw:Int) else y20),(bif b3 then .pointer (some ⟨pb,3,none⟩) else y21),(bif b4 then .slice (some ⟨l.ansB,0,none⟩) l.n l.n else y22),(bif b5 then .int .i64 (iw:Int) else y23),(bif b6 then .pointer (some ⟨l.ansB,iw,none⟩) else y24),(bif b7 then (.slice Aa An Ac) else y25),(bif b8 then .slice (some ⟨rowB,0,none⟩) l.m l.m else y26),(bif b9 then .pointer (some ⟨tb,1,none⟩) else y27),(bif b10 then .int .i64 ac.at_ else y28),(bif b11 then .pointer (some ⟨rowB,at_,none⟩) else y29),(bif b12 then .pointer (some (c0 (l.nb at_) 0)) else y30),(bif b13 then .iface wkP (.pointer (some (c0 k.blk 0))) else y31),(bif b14 then actV ac.k ac.at_ ac.a ac.b else y32),(bif b15 then x33 else y33),(bif b16 then x34 else y34),(bif b17 then x35 else y35),(bif b18 then .pointer (some ⟨l.ansB,iw,none⟩) else y36),y37],[]⟩∧(b15=decide (1≤p)∧b16=decide (2≤p)∧b17=decide (3≤p)∧b19=decide (4≤p))∧(b17=true→b7=true)∧Ph l ok n0 gb iw k fb gh Γ' (.slice Aa An Ac) ac r at_ tb p x33 x34 x35 s' w'∧(b15=true→b10=true∧b14=true)∧((b11=true→b10=true)∧(b12=true→b10=true))) ?init ?fin ?step
  case init=>exact ⟨false,false,false,false,false,false,false,false,false,false,false,false,false,false,false,false,false,false,false,false,0,y33,y34,y35,rfl,rfl,⟨rfl,rfl,rfl,rfl⟩,(fun h=>(by cases h)),hP0,(fun h=>(by cases h)),⟨fun h=>(by cases h),fun h=>(by cases h)⟩⟩
  case fin =>
    rintro s' a w' ⟨b0,b1,b2,b3,b4,b5,b6,b7,b8,b9,b10,b11,b12,b13,b14,b15,b16,b17,b18,b19,p,x33,x34,x35,hl,rfl,hc,h7,hP,h15d,h10⟩
    have hl':(#[true,true,true,true,true,true,true,true,true,true,true,true,true,true,true,true,true,true,true,true]:Array Bool)=#[b0,b1,b2,b3,b4,b5,b6,b7,b8,b9,b10,b11,b12,b13,b14,b15,b16,b17,b18,b19]:=hl
    simp only [Array.mk.injEq,List.cons.injEq,and_true] at hl'
    obtain ⟨rfl,rfl,rfl,rfl,rfl,rfl,rfl,rfl,rfl,rfl,rfl,rfl,rfl,rfl,rfl,rfl,rfl,rfl,rfl,rfl⟩:=hl'
    simp only [cond_true,cond_false]
    have hp4:4≤p:=by have:=hc.2.2.2;simp at this;omega
    have hp5:p=4:=by
      by_cases h:p=4
      · exact h
      · exact absurd hP.le (by omega)
    subst hp5
    obtain ⟨Γ'',n1,E1,e1⟩:=hP.done hiw hat ha
    exact H s' w' Γ'' n1 E1 e1 _ _ _ _ _ _ _ _ _ _ _ _ _ _ _ _ _ _ _
  case step =>
    rintro listed s' a w' i rest ⟨b0,b1,b2,b3,b4,b5,b6,b7,b8,b9,b10,b11,b12,b13,b14,b15,b16,b17,b18,b19,p,x33,x34,x35,hl,rfl,hc,h7,hP,h15d,h10⟩ hi hf hd hrs hn
    subst hl
    have hi':i < 20:=hi
    have:i=0∨i=1∨i=2∨i=3∨i=4∨i=5∨i=6∨i=7∨i=8∨i=9∨i=10∨i=11∨i=12∨i=13∨i=14∨i=15∨i=16∨i=17∨i=18∨i=19:=by omega
    rcases this with rfl | rfl | rfl | rfl | rfl | rfl | rfl | rfl | rfl | rfl | rfl | rfl | rfl | rfl | rfl | rfl | rfl | rfl | rfl | rfl
    · have hbf:b0=false:=hf
      subst hbf
      simp only [cond_true,cond_false]
      refine l_val T (v:=.pointer (some ⟨pb,3,none⟩)) (by simp) rfl (by rfl) (fun w=>by go_simp) (fun w=>by simp [go_sem]) ?_
      exact hn _ _ _ ⟨true,b1,b2,b3,b4,b5,b6,b7,b8,b9,b10,b11,b12,b13,b14,b15,b16,b17,b18,b19,p,x33,x34,x35,rfl,rfl,hc,h7,hP,h15d,h10⟩
    · have hbf:b1=false:=hf
      subst hbf
      have hbt0:b0=true:=hd 0 (by simp)
      subst hbt0
      simp only [cond_true,cond_false]
      have hf0:=hpc w' (hP.fixed hiw hat hpf).1
      obtain ⟨st0,hst0⟩:=hP.seat
      refine l_loadH O (hidesC hst0 _) (by simp) rfl (by rfl) hf0 ((hP.fixed hiw hat hpf).2) (fun w₁ hc₁=>⟨by go_simp,by simp [listed,go_sem,hc₁];exact seen_cell hq _ _ _⟩) ?_
      exact hn _ _ _ ⟨true,true,b2,b3,b4,b5,b6,b7,b8,b9,b10,b11,b12,b13,b14,b15,b16,b17,b18,b19,p,x33,x34,x35,rfl,rfl,hc,h7,hP,h15d,h10⟩
    · have hbf:b2=false:=hf
      subst hbf
      simp only [cond_true,cond_false]
      refine l_val T (v:=.int .i64 (iw:Int)) (by simp) rfl (by rfl) (fun w=>by go_simp) (fun w=>by simp [go_sem]) ?_
      exact hn _ _ _ ⟨b0,b1,true,b3,b4,b5,b6,b7,b8,b9,b10,b11,b12,b13,b14,b15,b16,b17,b18,b19,p,x33,x34,x35,rfl,rfl,hc,h7,hP,h15d,h10⟩
    · have hbf:b3=false:=hf
      subst hbf
      simp only [cond_true,cond_false]
      refine l_val T (v:=.pointer (some ⟨pb,3,none⟩)) (by simp) rfl (by rfl) (fun w=>by go_simp) (fun w=>by simp [go_sem]) ?_
      exact hn _ _ _ ⟨b0,b1,b2,true,b4,b5,b6,b7,b8,b9,b10,b11,b12,b13,b14,b15,b16,b17,b18,b19,p,x33,x34,x35,rfl,rfl,hc,h7,hP,h15d,h10⟩
    · have hbf:b4=false:=hf
      subst hbf
      have hbt3:b3=true:=hd 3 (by simp)
      subst hbt3
      simp only [cond_true,cond_false]
      have hf0:=hpc w' (hP.fixed hiw hat hpf).1
      obtain ⟨st0,hst0⟩:=hP.seat
      refine l_loadH O (hidesC hst0 _) (by simp) rfl (by rfl) hf0 ((hP.fixed hiw hat hpf).2) (fun w₁ hc₁=>⟨by go_simp,by simp [listed,go_sem,hc₁];exact seen_cell hq _ _ _⟩) ?_
      exact hn _ _ _ ⟨b0,b1,b2,true,true,b5,b6,b7,b8,b9,b10,b11,b12,b13,b14,b15,b16,b17,b18,b19,p,x33,x34,x35,rfl,rfl,hc,h7,hP,h15d,h10⟩
    · have hbf:b5=false:=hf
      subst hbf
      simp only [cond_true,cond_false]
      refine l_val T (v:=.int .i64 (iw:Int)) (by simp) rfl (by rfl) (fun w=>by go_simp) (fun w=>by simp [go_sem]) ?_
      exact hn _ _ _ ⟨b0,b1,b2,b3,b4,true,b6,b7,b8,b9,b10,b11,b12,b13,b14,b15,b16,b17,b18,b19,p,x33,x34,x35,rfl,rfl,hc,h7,hP,h15d,h10⟩
    · have hbf:b6=false:=hf
      subst hbf
      have hbt4:b4=true:=hd 4 (by simp)
      subst hbt4
      have hbt5:b5=true:=hd 5 (by simp)
      subst hbt5
      simp only [cond_true,cond_false]
      refine l_val T (v:=.pointer (some ⟨l.ansB,iw,none⟩)) (by simp) rfl (by rfl) (fun w=>?_) (fun w=>?_) ?_
      focus go_simp
      focus (simp [go_sem,hiw])
      exact hn _ _ _ ⟨b0,b1,b2,b3,true,true,true,b7,b8,b9,b10,b11,b12,b13,b14,b15,b16,b17,b18,b19,p,x33,x34,x35,rfl,rfl,hc,h7,hP,h15d,h10⟩
    · have hbf:b7=false:=hf
      subst hbf
      have hbt6:b6=true:=hd 6 (by simp)
      subst hbt6
      simp only [cond_true,cond_false]
      have h17:b17=false:=by
        cases b17 with
        | false=>rfl
        | true=>exact absurd (h7 rfl) (by simp)
      subst h17
      have hp3:p≤3:=by have:=hc.2.2.1;simp at this;omega
      have hf0:=hP.arrCell hiw hat hp3
      obtain ⟨st0,hst0⟩:=hP.seat
      refine l_loadH O (hidesC hst0 _) (by simp) rfl (by rfl) hf0 ((hP.arr hiw hat hp3).2) (fun w₁ hc₁=>⟨by clear hf0 hst0 hp3 hP hc h7 h15d h10;go_simp,by simp [listed,go_sem,hc₁];exact seen_cell hq _ _ _⟩) ?_
      exact hn _ _ _ ⟨b0,b1,b2,b3,b4,b5,true,true,b8,b9,b10,b11,b12,b13,b14,b15,b16,false,b18,b19,p,x33,x34,x35,rfl,rfl,hc,(fun h=>(by cases h)),hP,h15d,h10⟩
    · have hbf:b8=false:=hf
      subst hbf
      simp only [cond_true,cond_false]
      have hf0:=hrc w' (hP.fixed hiw hat hrf).1
      obtain ⟨st0,hst0⟩:=hP.seat
      refine l_loadH O (hidesC hst0 _) (by simp) rfl (by rfl) hf0 ((hP.fixed hiw hat hrf).2) (fun w₁ hc₁=>⟨by go_simp,by simp [listed,go_sem,hc₁];exact seen_cell hq _ _ _⟩) ?_
      exact hn _ _ _ ⟨b0,b1,b2,b3,b4,b5,b6,b7,true,b9,b10,b11,b12,b13,b14,b15,b16,b17,b18,b19,p,x33,x34,x35,rfl,rfl,hc,h7,hP,h15d,h10⟩
    · have hbf:b9=false:=hf
      subst hbf
      simp only [cond_true,cond_false]
      refine l_val T (v:=.pointer (some ⟨tb,1,none⟩)) (by simp) rfl (by rfl) (fun w=>by go_simp) (fun w=>by simp [go_sem]) ?_
      exact hn _ _ _ ⟨b0,b1,b2,b3,b4,b5,b6,b7,b8,true,b10,b11,b12,b13,b14,b15,b16,b17,b18,b19,p,x33,x34,x35,rfl,rfl,hc,h7,hP,h15d,h10⟩
    · have hbf:b10=false:=hf
      subst hbf
      have hbt9:b9=true:=hd 9 (by simp)
      subst hbt9
      simp only [cond_true,cond_false]
      have h15:b15=false:=by
        cases b15 with
        | false=>rfl
        | true=>exact absurd (h15d rfl).1 (by simp)
      subst h15
      have hp0:p=0:=by have:=hc.1;simp at this;omega
      subst hp0
      obtain ⟨htb,htH⟩:=hP.tb rfl
      have hf0:w'.cell? ⟨tb,1,none⟩=some (.int .i64 ac.at_):=cell_of_heap htb (j:=1) rfl
      obtain ⟨st0,hst0⟩:=hP.seat
      refine l_loadH O (hidesC hst0 _) (by simp) rfl (by rfl) hf0 htH (fun w₁ hc₁=>⟨by clear hf0 hst0 htb htH hP hc h7 h15d h10 hpos hAv hP0;go_simp,by clear hf0 hst0 htb htH hP hc h7 h15d h10 hpos hAv hP0;simp [listed,go_sem,hc₁];exact seen_cell hq _ _ _⟩) ?_
      exact hn _ _ _ ⟨b0,b1,b2,b3,b4,b5,b6,b7,b8,true,true,b11,b12,b13,b14,false,b16,b17,b18,b19,0,x33,x34,x35,rfl,rfl,hc,h7,hP,(fun h=>(by cases h)),⟨fun _=>rfl,fun _=>rfl⟩⟩
    · have hbf:b11=false:=hf
      subst hbf
      have hbt8:b8=true:=hd 8 (by simp)
      subst hbt8
      have hbt10:b10=true:=hd 10 (by simp)
      subst hbt10
      simp only [cond_true,cond_false]
      refine l_val T (v:=.pointer (some ⟨rowB,at_,none⟩)) (by simp) rfl (by rfl) (fun w=>?_) (fun w=>?_) ?_
      focus (rw [ha];go_simp)
      focus (simp [go_sem,ha,hat])
      exact hn _ _ _ ⟨b0,b1,b2,b3,b4,b5,b6,b7,true,b9,true,true,b12,b13,b14,b15,b16,b17,b18,b19,p,x33,x34,x35,rfl,rfl,hc,h7,hP,h15d,⟨fun _=>rfl,fun _=>rfl⟩⟩
    · have hbf:b12=false:=hf
      subst hbf
      have hbt11:b11=true:=hd 11 (by simp)
      subst hbt11
      simp only [cond_true,cond_false]
      have e10:b10=true:=h10.1 rfl
      subst e10
      have hf0:=hnc w' (hP.fixed hiw hat hof).1
      obtain ⟨st0,hst0⟩:=hP.seat
      refine l_loadH O (hidesC hst0 _) (by simp) rfl (by rfl) hf0 ((hP.fixed hiw hat hof).2) (fun w₁ hc₁=>⟨by go_simp,by simp [listed,go_sem,hc₁];exact seen_cell hq _ _ _⟩) ?_
      exact hn _ _ _ ⟨b0,b1,b2,b3,b4,b5,b6,b7,b8,b9,true,true,true,b13,b14,b15,b16,b17,b18,b19,p,x33,x34,x35,rfl,rfl,hc,h7,hP,h15d,⟨fun _=>rfl,fun _=>rfl⟩⟩
    · have hbf:b13=false:=hf
      subst hbf
      simp only [cond_true,cond_false]
      refine l_val T (v:=.iface wkP (.pointer (some (c0 k.blk 0)))) (by simp) rfl (by rfl) (fun w=>by go_simp) (fun w=>by simp [go_sem]) ?_
      exact hn _ _ _ ⟨b0,b1,b2,b3,b4,b5,b6,b7,b8,b9,b10,b11,b12,true,b14,b15,b16,b17,b18,b19,p,x33,x34,x35,rfl,rfl,hc,h7,hP,h15d,h10⟩
    · have hbf:b14=false:=hf
      subst hbf
      simp only [cond_true,cond_false]
      have h15:b15=false:=by
        cases b15 with
        | false=>rfl
        | true=>exact absurd (h15d rfl).2 (by simp)
      subst h15
      have hp0:p=0:=by have:=hc.1;simp at this;omega
      subst hp0
      obtain ⟨htb,htH⟩:=hP.tb rfl
      obtain ⟨st0,hst0⟩:=hP.seat
      refine l_loadRow O (hidesC hst0 _) (by simp) hP.hidOk rfl (by rfl) rfl (by simp [Act.eval]) htb htH Try.underlying103 rfl (by kernel_rfl) (fun w1 G1 hs1=>?_)
      rw [show (Sit.of k s').st=c0 gb 1 by show c0 s'.gm.gb 1=_;rw [hP.hgb]] at G1
      exact hn _ _ _ ⟨b0,b1,b2,b3,b4,b5,b6,b7,b8,b9,b10,b11,b12,b13,true,false,b16,b17,b18,b19,0,x33,x34,x35,rfl,rfl,hc,h7,hP.grow G1 hiw hat,(fun h=>(by cases h)),h10⟩
    · have hbf:b15=false:=hf
      subst hbf
      have hbt12:b12=true:=hd 12 (by simp)
      subst hbt12
      have hbt13:b13=true:=hd 13 (by simp)
      subst hbt13
      have hbt14:b14=true:=hd 14 (by simp)
      subst hbt14
      simp only [cond_true,cond_false]
      have e10:b10=true:=h10.2 rfl
      subst e10
      have hp0:p=0:=by have:=hc.1;simp at this;omega
      subst hp0
      have h16:b16=false:=by have:=hc.2.1;simpa using this
      have h17:b17=false:=by have:=hc.2.2.1;simpa using this
      have h19:b19=false:=by have:=hc.2.2.2;simpa using this
      subst h16
      subst h17
      subst h19
      obtain ⟨e0,E⟩:=hP.run0 hiw
      subst e0
      refine l_enter T (fn:=Try.f51) (c:=.skip) (g:=51) (xs:=#[.pointer (some (c0 (l.nb at_) 0)),.iface wkP (.pointer (some (c0 k.blk 0))),actV ac.k ac.at_ ac.a ac.b]) (by simp) rfl (by rfl) (fun w=>?_) (fun w=>?_) ?_
      focus (clear E hP hc h7 h15d h10 hpos hAv hP0;go_simp)
      focus (clear E hP hc h7 h15d h10 hpos hAv hP0;simp [go_sem,events_into Try.func51 (by kernel_rfl) (by kernel_rfl)])
      refine actL (Ho:=fun g:Gst (PlayCli l ok)=>g.gm.H) (R:=fun s' w'=>(PlayCli l ok).own iw s'.Γ=(PlayCli l ok).own iw Γ'∧Run (PlayCli l ok) n0 gb iw k fb s' s'.Γ w') O (skMore_F fb gb) (ok.acts _ hsm _ ham).1 (hidesC E.mid.at_ _) E.mid.did.hidOk (fun w1 G1=>?_) (fun s' w' hR=>?_) _ _ (hS.push Try.func50) (by simp [bk,Frame.at]) rfl (fun z s'' w'' hQ=>?_) (fun ch s'' w'' hQ=>by obtain ⟨_,_,_,h⟩:=hQ;cases h)
      · have G1':Grow (c0 gb 1) s'.gm.H (fun _=>False) w' w1:=by rw [← E.mid.hgb];exact G1
        exact (E.newer G1').gate nx (by show playStand (Γ'.pos iw,Γ'.av iw)=_;rw [hpos];rfl)
      · have M:PlayM l s'.Γ w':=hR.2.mid.did.M
        exact ⟨hidesC hR.2.mid.at_ _,hR.2.mid.did.hidOk,fun h=>hR.2.mid.Hfoot h (.inr (.inr (.inl ⟨_,hat,rfl⟩))),_,M.nums _ hat⟩
      obtain ⟨wp,vv,D,hz⟩:=hQ
      cases hz
      rw [bk_finish rfl]
      have hown:=D.pre.1
      have hE:=D.pre.2
      simp only [PlayCli,Prod.mk.injEq] at hown
      have G2:Grow (c0 gb 1) s''.gm.H (fun x=>x=l.nb at_) wp w'':=by rw [← hE.mid.hgb];exact D.grow
      have hP1:=Ph.acted (gh:=s') (Γ':=Γ') (tb:=tb) (r:=r) (A:=(.slice Aa An Ac)) (x34:=x34) (x35:=x35) hat hE ⟨hown.1.trans hpos,hown.2.trans hAv⟩ D.was D.now G2
      exact hn _ _ _ ⟨b0,b1,b2,b3,b4,b5,b6,b7,b8,b9,true,b11,true,true,true,true,false,false,b18,false,1,_,x34,x35,rfl,rfl,⟨rfl,rfl,rfl,rfl⟩,(fun h=>(by cases h)),hP1,(fun _=>⟨rfl,rfl⟩),⟨fun _=>rfl,fun _=>rfl⟩⟩
    · have hbf:b16=false:=hf
      subst hbf
      have hbt15:b15=true:=hd 15 (by simp)
      subst hbt15
      simp only [cond_true,cond_false]
      have hp1:p=1:=by have h1:=hc.1;have h2:=hc.2.1;simp at h1 h2;omega
      subst hp1
      have h17:b17=false:=by have:=hc.2.2.1;simpa using this
      have h19:b19=false:=by have:=hc.2.2.2;simpa using this
      subst h17
      subst h19
      obtain ⟨z,rfl⟩:=hP.val (by omega)
      obtain ⟨st0,hst0⟩:=hP.seat
      refine l_mask O (F:=fun _=>false) (fun f h=>by cases h) (hidesC hst0 _) (by simp) hP.hidOk rfl (by rfl) (by kernel_rfl) (R:=fun v x v'=>x=.slice (some ⟨v.heap.size,0,none⟩) 1 1∧v'=v.alloc (.cells #[.int .i64 z] 3)) (fun v M=>?_) (fun v x v' w1 M hR Al=>?_)
      · refine ⟨_,_,?_,rfl,rfl⟩
        clear hP hc h7 h15d h10 hpos hAv hP0
        go_simp
      obtain ⟨rfl,rfl⟩:=hR
      rw [show (Sit.of k s').st=c0 gb 1 by show c0 s'.gm.gb 1=_;rw [hP.hgb]] at Al
      have hP1:=hP.built hiw hat M Al
      exact hn _ _ _ ⟨b0,b1,b2,b3,b4,b5,b6,b7,b8,b9,b10,b11,b12,b13,b14,true,true,false,b18,false,2,_,_,x35,rfl,rfl,⟨rfl,rfl,rfl,rfl⟩,(fun h=>(by cases h)),hP1,h15d,h10⟩
    · have hbf:b17=false:=hf
      subst hbf
      have hbt7:b7=true:=hd 7 (by simp)
      subst hbt7
      have hbt16:b16=true:=hd 16 (by simp)
      subst hbt16
      have hbt15:b15=true:=hd 15 (by simp)
      subst hbt15
      simp only [cond_true,cond_false]
      have hp2:p=2:=by have h1:=hc.2.1;have h2:=hc.2.2.1;simp at h1 h2;omega
      subst hp2
      have h19:b19=false:=by have:=hc.2.2.2;simpa using this
      subst h19
      obtain ⟨q,e34,hqb,hqH⟩:=hP.new1
      subst e34
      obtain ⟨hrow,hrH,hrl⟩:=hP.rowA hiw hat
      obtain ⟨st0,hst0⟩:=hP.seat
      obtain ⟨z,rfl⟩:=hP.val (by omega)
      refine l_append O (F:=fun _=>false) (fun f h=>by cases h) (hidesC hst0 _) (by simp) hP.hidOk rfl (by rfl) rfl Try.underlying22 hi0 hz0 hz1 hz2 (by rfl) (by decide) (v:=(.slice Aa An Ac)) (by simp [Act.eval]) hrow hrH (ad:=⟨q,0,none⟩) (news:=[.int .i64 z]) (c:=1) (m:=1) (by simp [Act.eval]) rfl (fun j u hj=>?_) hqH (fun u hu=>?_) (by decide) (by simp [maxLen];omega) (by omega) (fun g cap w1 hown G1 hg hgH hgl=>?_)
      · cases j with
        | zero =>
          simp at hj
          subst hj
          rw [show (⟨q,0,none⟩:Addr).add 0=⟨q,0,none⟩ by simp [Addr.add]]
          exact cell_of_heap hqb rfl
        | succ j=>simp at hj
      · simp at hu;subst hu;rfl
      rw [show (Sit.of k s').st=c0 gb 1 by show c0 s'.gm.gb 1=_;rw [hP.hgb]] at G1
      have hP1:=hP.appended hiw hat rfl hown G1 hg
      exact hn _ _ _ ⟨b0,b1,b2,b3,b4,b5,b6,true,b8,b9,b10,b11,b12,b13,b14,true,true,true,b18,false,3,_,_,_,rfl,rfl,⟨rfl,rfl,rfl,rfl⟩,(fun _=>rfl),hP1,h15d,h10⟩
    · have hbf:b18=false:=hf
      subst hbf
      have hbt1:b1=true:=hd 1 (by simp)
      subst hbt1
      have hbt2:b2=true:=hd 2 (by simp)
      subst hbt2
      have hbt0:b0=true:=hd 0 (by simp)
      subst hbt0
      have hbt3:b3=true:=hd 3 (by simp)
      subst hbt3
      have hbt4:b4=true:=hd 4 (by simp)
      subst hbt4
      have hbt5:b5=true:=hd 5 (by simp)
      subst hbt5
      have hbt6:b6=true:=hd 6 (by simp)
      subst hbt6
      have hbt7:b7=true:=hd 7 (by simp)
      subst hbt7
      have hbt8:b8=true:=hd 8 (by simp)
      subst hbt8
      have hbt9:b9=true:=hd 9 (by simp)
      subst hbt9
      have hbt10:b10=true:=hd 10 (by simp)
      subst hbt10
      have hbt11:b11=true:=hd 11 (by simp)
      subst hbt11
      have hbt12:b12=true:=hd 12 (by simp)
      subst hbt12
      have hbt13:b13=true:=hd 13 (by simp)
      subst hbt13
      have hbt14:b14=true:=hd 14 (by simp)
      subst hbt14
      have hbt15:b15=true:=hd 15 (by simp)
      subst hbt15
      have hbt16:b16=true:=hd 16 (by simp)
      subst hbt16
      have hbt17:b17=true:=hd 17 (by simp)
      subst hbt17
      simp only [cond_true,cond_false]
      refine l_val T (v:=.pointer (some ⟨l.ansB,iw,none⟩)) (by simp) rfl (by rfl) (fun w=>?_) (fun w=>?_) ?_
      focus go_simp
      focus (simp [go_sem,hiw])
      exact hn _ _ _ ⟨true,true,true,true,true,true,true,true,true,true,true,true,true,true,true,true,true,true,true,b19,p,x33,x34,x35,rfl,rfl,hc,h7,hP,h15d,h10⟩
    · have hbf:b19=false:=hf
      subst hbf
      have hbt18:b18=true:=hd 18 (by simp)
      subst hbt18
      have hbt17:b17=true:=hd 17 (by simp)
      subst hbt17
      have hbt0:b0=true:=hd 0 (by simp)
      subst hbt0
      have hbt1:b1=true:=hd 1 (by simp)
      subst hbt1
      have hbt2:b2=true:=hd 2 (by simp)
      subst hbt2
      have hbt3:b3=true:=hd 3 (by simp)
      subst hbt3
      have hbt4:b4=true:=hd 4 (by simp)
      subst hbt4
      have hbt5:b5=true:=hd 5 (by simp)
      subst hbt5
      have hbt6:b6=true:=hd 6 (by simp)
      subst hbt6
      have hbt7:b7=true:=hd 7 (by simp)
      subst hbt7
      have hbt8:b8=true:=hd 8 (by simp)
      subst hbt8
      have hbt9:b9=true:=hd 9 (by simp)
      subst hbt9
      have hbt10:b10=true:=hd 10 (by simp)
      subst hbt10
      have hbt11:b11=true:=hd 11 (by simp)
      subst hbt11
      have hbt12:b12=true:=hd 12 (by simp)
      subst hbt12
      have hbt13:b13=true:=hd 13 (by simp)
      subst hbt13
      have hbt14:b14=true:=hd 14 (by simp)
      subst hbt14
      have hbt15:b15=true:=hd 15 (by simp)
      subst hbt15
      have hbt16:b16=true:=hd 16 (by simp)
      subst hbt16
      simp only [cond_true,cond_false]
      have hp3:p=3:=by have h1:=hc.2.2.1;have h2:=hc.2.2.2;simp at h1 h2;omega
      subst hp3
      obtain ⟨sa,sn,scp,e35⟩:=hP.sl (by omega)
      subst e35
      obtain ⟨⟨Γb,harr,_⟩,hnH⟩:=hP.arr hiw hat (by omega)
      obtain ⟨st0,hst0⟩:=hP.seat
      refine l_storeM O (hidesC hst0 _) (by simp) hP.hidOk rfl (by rfl) (by kernel_rfl) harr hnH (off:=iw) (y:=.slice sa sn scp) (fun v hv=>?_) (fun w1 hw1 G1 hs1=>?_)
      · have hcell:v.cell? ⟨l.ansB,iw,none⟩=some (Γb.av iw):=cell_of_heap hv (avArr_at hiw)
        have hfr:v.frozen? ⟨l.ansB,iw,none⟩=false:=frozen_of_heap hv
        clear hv harr hP hc h7 h15d h10 hpos hAv hP0
        go_simp
      rw [show (Sit.of k s').st=c0 gb 1 by show c0 s'.gm.gb 1=_;rw [hP.hgb]] at G1
      have hP1:=hP.stored hiw hat harr hw1 G1
      exact hn _ _ _ ⟨true,true,true,true,true,true,true,true,true,true,true,true,true,true,true,true,true,true,true,true,4,x33,x34,_,rfl,rfl,⟨rfl,rfl,rfl,rfl⟩,(fun _=>rfl),hP1,h15d,h10⟩
end
end Go.Proofs.Ytndppafplgilbaa
namespace Go.Proofs.Ytndppafplgilbaa
open Go Go.Conc Go.RowKit
open Go.ConcN (sumTo upd sumTo_upd upd_ne upd_same)
structure PlayLay (l:PL) (sb pb rb rowB sblk soff scap:Nat) (ao:Nat→Option Addr) (acap:Nat→Nat):Prop where
  fsb:l.fix sb
  fpb:l.fix pb
  frb:l.fix rb
  frow:l.fix rowB
  fsl:l.fix sblk
  sv:l.w0.cell? ⟨sb,0,none⟩=some (.slice (some ⟨sblk,soff,none⟩) l.n scap)
  sc:∀ i,i < l.n→l.w0.cell? ⟨sblk,soff + i,none⟩=some (.slice (ao i) (l.script i).length (acap i))
  acts:∀ i,i < l.n→ActsIn l.w0 (ao i) (l.script i)
  facts:∀ i,i < l.n→∀ b off,ao i=some ⟨b,off,none⟩→l.script i≠[]→l.fix b
  pv:l.w0.cell? ⟨pb,3,none⟩=some (.slice (some ⟨l.ansB,0,none⟩) l.n l.n)
  rv:l.w0.cell? ⟨rb,0,none⟩=some (.slice (some ⟨rowB,0,none⟩) l.m l.m)
  row:∀ j,j < l.m→l.w0.cell? ⟨rowB,j,none⟩=some (.pointer (some (c0 (l.nb j) 0)))
section
variable {l:PL} {ok:l.Ok} {n0 gb iw:Nat} {k:Wk} {fb:Nat} {Post:Value→World→Prop} {sb pb rb rowB sblk soff scap:Nat} {ao:Nat→Option Addr} {acap:Nat→Nat}
theorem Run.fixed {gh:Gst (PlayCli l ok)} {Γ':PG} {w:World} (E:Run (PlayCli l ok) n0 gb iw k fb gh Γ' w) {x:Nat} (hx:l.fix x):w.heap[x]?=l.w0.heap[x]?∧¬ gh.gm.H x:=by
  have M:PlayM l Γ' w:=E.mid.did.M
  exact ⟨M.fixed x hx,fun h=>E.mid.Hfoot h (.inl hx)⟩
theorem Run.fixCell {gh:Gst (PlayCli l ok)} {Γ':PG} {w:World} (E:Run (PlayCli l ok) n0 gb iw k fb gh Γ' w) {b o:Nat} (hx:l.fix b) {v:Value} (h:l.w0.cell? ⟨b,o,none⟩=some v):w.cell? ⟨b,o,none⟩=some v:=by
  rw [cell_of_block (E.fixed hx).1];exact h
set_option maxRecDepth 100000 in
set_option maxHeartbeats 8000000 in
theorem play_rounds (Y:PlayLay l sb pb rb rowB sblk soff scap ao acap) (hi:iw < l.n) {c:Frame} {cs:List Frame} (hS:SkF fb gb (c :: cs))
    (H:∀ (gh:Gst (PlayCli l ok)) (Γ':PG) (w:World),Run (PlayCli l ok) n0 gb iw k fb gh Γ' w→playNext l iw gh.Γ Γ'→Γ'.pos iw=some []→LC (PlayCli l ok) n0 gb iw k Post gh (G (c.finish (.tuple #[])) cs) w) :
    ∀ d j (gh:Gst (PlayCli l ok)) (Γ':PG) (w:World),j + d=(l.script iw).length→Run (PlayCli l ok) n0 gb iw k fb gh Γ' w→playNext l iw gh.Γ Γ'→Γ'.pos iw=some ((l.script iw).drop j)→∀ y5 y6 y7 y8 y9 y10 y11 y15 y16 y17 y18 y19 y20 y21 y22 y23 y24 y25 y26 y27 y28 y29 y30 y31 y32 y33 y34 y35 y36 y37:Value,
      LC (PlayCli l ok) n0 gb iw k Post gh (G ((bk 50 .normal).at ⟨#[.int .i64 (iw:Int),.iface wkP (.pointer (some (c0 k.blk 0))),.pointer (some (c0 sb 0)),.pointer (some (c0 pb 0)),.pointer (some (c0 rb 0)),y5,y6,y7,y8,y9,y10,y11,.slice (ao iw) (l.script iw).length (acap iw),.int .i64 ((l.script iw).length:Int),.int .i64 (j:Int),y15,y16,y17,y18,y19,y20,y21,y22,y23,y24,y25,y26,y27,y28,y29,y30,y31,y32,y33,y34,y35,y36,y37],[]⟩ [.code playLoop,.inLoop playLoop,.inBlock 0]) (c :: cs)) w:=by
  intro d
  induction d with
  | zero =>
    intro j gh Γ' w hj E nx hp y5 y6 y7 y8 y9 y10 y11 y15 y16 y17 y18 y19 y20 y21 y22 y23 y24 y25 y26 y27 y28 y29 y30 y31 y32 y33 y34 y35 y36 y37
    have O:=ownK (PlayCli l ok) n0 iw k Try.prog Post (KontC (PlayCli l ok) wkT wkP gb iw k Try.prog Post (HomeC (PlayCli l ok) n0 gb iw k Post))
    have T:=O.toCtl
    have hj:j=(l.script iw).length:=by omega
    subst hj
    rw [List.drop_length] at hp
    simp only [playLoop,seqL,seqR,blkOf,loopOf,Option.getD_some,Try.f50]
    refine laW ?_
    (refine l_cond T false (by simp [Act.eval] <;> omega) ?_;simp only [if_true,if_false,Bool.false_eq_true,↓reduceIte])
    refine l_exit T rfl ?_
    refine l_fin T ?_
    exact l_leave T Try.func50 rfl (resultsC_none rfl _) (H gh Γ' w E nx hp)
  | succ d ih =>
    intro j gh Γ' w hj E nx hp y5 y6 y7 y8 y9 y10 y11 y15 y16 y17 y18 y19 y20 y21 y22 y23 y24 y25 y26 y27 y28 y29 y30 y31 y32 y33 y34 y35 y36 y37
    have O:=ownK (PlayCli l ok) n0 iw k Try.prog Post (KontC (PlayCli l ok) wkT wkP gb iw k Try.prog Post (HomeC (PlayCli l ok) n0 gb iw k Post))
    have T:=O.toCtl
    have hq:(Try.prog.funcs[50]?).any (·.norace)=false:=by rw [Try.func50];rfl
    have hjl:j < (l.script iw).length:=by omega
    have hsm:l.script iw∈l.scripts:=by
      unfold PL.script
      rw [List.getD_eq_getElem?_getD,List.getElem?_eq_getElem hi]
      exact List.getElem_mem hi
    have ham:(l.script iw)[j]∈l.script iw:=List.getElem_mem hjl
    obtain ⟨b,off,eao,c1,c2,c3,c4⟩:=Y.acts iw hi j hjl
    have hfb:=Y.facts iw hi b off eao (fun e=>by rw [e] at hjl;simp at hjl)
    obtain ⟨_,hk3,hk4⟩:=ok.acts _ hsm _ ham
    obtain ⟨at_,hat0⟩:=Int.eq_ofNat_of_zero_le hk3
    have hat:at_ < l.m:=by omega
    have hdrop:(l.script iw).drop j=(l.script iw)[j] :: (l.script iw).drop (j + 1):=List.drop_eq_getElem_cons hjl
    rw [hdrop] at hp
    have hh:=hidesC (home0:=gh.home0) E.mid.at_ (n0 + iw)
    simp only [playLoop,seqL,seqR,blkOf,loopOf,Option.getD_some,Try.f50]
    rw [eao]
    refine laW ?_
    (refine l_cond T true (by simp [Act.eval] <;> omega) ?_;simp only [if_true,if_false,Bool.false_eq_true,↓reduceIte])
    refine laW ?_
    refine l_block T ?_
    refine laW ?_
    (refine l_val T (v:=.pointer (some ⟨b,off + j * 4,none⟩)) (by simp) rfl (by rfl) (fun w=>?_) (fun w=>?_) ?_;(focus go_simp);(focus (simp [go_sem,hjl]));walk_nrm)
    generalize hac:(l.script iw)[j]=ac at *
    refine l_mask O (F:=fun _=>false) (fun f h=>by cases h) hh (by simp) E.mid.did.hidOk rfl (by rfl) (by kernel_rfl) (R:=fun v x v'=>x=actV ac.k ac.at_ ac.a ac.b∧v'=v) (fun v M=>?_) (fun v x v' w1 M hR Al=>?_)
    · have d1:=M.cellIn (a:=⟨b,off + j * 4,none⟩) (E.fixed hfb).2 (E.fixCell hfb c1)
      have d2:=M.cellIn (a:=⟨b,off + j * 4 + 1,none⟩) (E.fixed hfb).2 (E.fixCell hfb c2)
      have d3:=M.cellIn (a:=⟨b,off + j * 4 + 2,none⟩) (E.fixed hfb).2 (E.fixCell hfb c3)
      have d4:=M.cellIn (a:=⟨b,off + j * 4 + 3,none⟩) (E.fixed hfb).2 (E.fixCell hfb c4)
      refine ⟨_,_,?_,rfl,rfl⟩
      clear E nx hp ih H hS M c1 c2 c3 c4
      go_simp
    obtain ⟨rfl,rfl⟩:=hR
    have G1:Grow (c0 gb 1) gh.gm.H (fun _=>False) w w1:=by rw [← E.mid.hgb];exact Al.grow M fun k hk _=>rfl
    have E1:=E.newer G1
    walk_nrm
    refine laW ?_
    refine l_new O hh (by simp) E1.mid.did.hidOk rfl (by rfl) (by kernel_rfl) (fun n=>.pointer (some (c0 n 0))) (c:=#[.int .i64 0,.int .i64 0,.int .i64 0,.int .i64 0]) (t:=103) (fun v=>by go_simp) (fun w2 hn2 G2 hl2=>?_)
    rw [show (Sit.of k gh).st=c0 gb 1 by show c0 gh.gm.gb 1=_;rw [E.mid.hgb]] at G2
    have E2:=E1.newer G2
    have hge:gh.w0.heap.size≤w1.heap.size:=E1.mid.did.size
    have htH:¬ gh.gm.H w1.heap.size:=E1.mid.newH hge
    walk_nrm
    refine laW ?_
    refine l_storeRow O hh (cells:=#[.int .i64 ac.k,.int .i64 ac.at_,.int .i64 ac.a,.int .i64 ac.b]) (by simp) E2.mid.did.hidOk rfl (by rfl) rfl (by simp [Act.eval]) (by simp [Act.eval]) hn2 htH (by kernel_rfl) rfl (by simp [Value.oneCell']) (fun w3 hn3 G3 hs3=>?_)
    rw [show (Sit.of k gh).st=c0 gb 1 by show c0 gh.gm.gb 1=_;rw [E.mid.hgb]] at G3
    have E3:Run (PlayCli l ok) n0 gb iw k fb gh Γ' w3:=E2.grow G3 ((PlayCli l ok).stable _ _ _ E2.mid.did.M fun x hx=>G3.low x (E2.mid.low hx) (fun h=>E2.mid.Hfoot h hx) fun e=>?_) (fun x hx=>.inl hx) fun x hx _=>.inr (by rw [hx];exact hge)
    · walk_nrm
      refine laW ?_
      have key:=play_r3 (Post:=Post) (n0:=n0) (k:=k) (w:=w3) (tb:=w1.heap.size) (sb:=sb) (kk:=[.inBlock 1,.code (seqR (seqR (seqR playLoop))),.inLoop playLoop,.inBlock 0]) hi hat0 hat hsm ham nx hp rfl (by obtain ⟨a,c,h⟩:=row_shape ((E3.mid.did.M:PlayM l Γ' w3).rows iw hi);exact ⟨a,_,c,h⟩) hS Y.fpb (fun w' e=>by rw [cell_of_block e];exact Y.pv) Y.frb (fun w' e=>by rw [cell_of_block e];exact Y.rv) Y.frow (fun w' e=>by rw [cell_of_block e];exact Y.row _ hat)
      simp only [playR3,playLoop,blkOf,loopOf,seqL,seqR,Option.getD_some,Try.f50] at key
      refine key _ _ _ _ _ _ _ _ _ _ _ _ _ _ _ _ _ _ _ _ _ _ _ _ _ _ _ _ _ _ _ _ (fun s' w' Γ'' n1 E4 e4=>?_) (Ph.start E3 hp hn3 htH _ _ _)
      · clear key
        intro z18 z19 z20 z21 z22 z23 z24 z25 z26 z27 z28 z29 z30 z31 z32 z33 z34 z35 z36
        refine l_inBlock T ?_
        simp only [playLoop,seqL,seqR,blkOf,loopOf,Option.getD_some,Try.f50] at ih ⊢
        refine laW ?_
        have ew:IntKind.i64.wrap ((j:Int) + 1)=((j + 1:Nat):Int):=by rw [IntKind.wrap_i64];have:=ok.len _ hsm;omega
        try simp only [ew]
        refine l_inLoop T ?_
        rw [← eao]
        exact ih (j + 1) s' Γ'' w' (by omega) E4 n1 e4 _ _ _ _ _ _ _ _ _ _ _ _ _ _ _ _ _ _ _ _ _ _ _ _ _ _ _ _ _ _
    · have:=E1.mid.low (x:=x) hx
      omega
set_option maxRecDepth 100000 in
set_option maxHeartbeats 8000000 in
theorem play_body (Y:PlayLay l sb pb rb rowB sblk soff scap ao acap) (hi:iw < l.n) (v0:Value):BodyOk (PlayCli l ok) n0 gb iw k Post (none,v0) 50 #[.pointer (some (c0 sb 0)),.pointer (some (c0 pb 0)),.pointer (some (c0 rb 0))]:=by
  intro fb gh w R hown c cs hS hkd hcm h1 _
  have O:=ownK (PlayCli l ok) n0 iw k Try.prog Post (KontC (PlayCli l ok) wkT wkP gb iw k Try.prog Post (HomeC (PlayCli l ok) n0 gb iw k Post))
  have T:=O.toCtl
  have hq:(Try.prog.funcs[50]?).any (·.norace)=false:=by rw [Try.func50];rfl
  have E:=R.run
  have hpos:gh.Γ.pos iw=none:=by simp only [PlayCli,Prod.mk.injEq] at hown;exact hown.1
  have hh:=hidesC (home0:=gh.home0) E.mid.at_ (n0 + iw)
  have M:PlayM l gh.Γ w:=E.mid.did.M
  have E':Run (PlayCli l ok) n0 gb iw k fb gh { gh.Γ with pos:=upd gh.Γ.pos iw (some (l.script iw)) } w:=E.grow (Grow.refl (fun _=>False) E.mid.did.hidOk) (PlayM.begin ok M hi hpos) (fun x hx=>.inl hx) fun x h=>h.elim
  have nx:playNext l iw gh.Γ { gh.Γ with pos:=upd gh.Γ.pos iw (some (l.script iw)) }:=by unfold playNext;rw [hpos]
  have f1:=E.fixCell Y.fsb Y.sv
  have f2:=E.fixCell Y.fsl (Y.sc iw hi)
  have n1:=(E.fixed Y.fsb).2
  have n2:=(E.fixed Y.fsl).2
  rw [show (#[.int .i64 (iw:Int),.iface wkP (.pointer (some (c0 k.blk 0)))] ++ #[.pointer (some (c0 sb 0)),.pointer (some (c0 pb 0)),.pointer (some (c0 rb 0))]:Array Value)=#[.int .i64 (iw:Int),.iface wkP (.pointer (some (c0 k.blk 0))),.pointer (some (c0 sb 0)),.pointer (some (c0 pb 0)),.pointer (some (c0 rb 0))] from rfl]
  rw [enter_bk Try.func50 rfl]
  walk_nrmf Try.f50
  refine laW ?_
  (refine l_loadH O hh (by simp) rfl (by rfl) f1 n1 (fun w₁ hc₁=>⟨by go_simp,by simp [listed,go_sem,hc₁];exact seen_cell hq _ _ _⟩) ?_;walk_nrm)
  refine laW ?_
  (refine l_val T (v:=.pointer (some ⟨sblk,soff + iw,none⟩)) (by simp) rfl (by rfl) (fun w=>?_) (fun w=>?_) ?_;(focus go_simp);(focus (simp [go_sem,hi]));walk_nrm)
  (refine l_loadH O hh (by simp) rfl (by rfl) f2 n2 (fun w₁ hc₁=>⟨by go_simp,by simp [listed,go_sem,hc₁];exact seen_cell hq _ _ _⟩) ?_;walk_nrm)
  refine laW ?_
  refine l_block T ?_
  refine l_loop T ?_
  have key:=play_rounds (Post:=Post) Y hi hS (fun gh' Γ' w' E2 nx2 hp2=>h1 _ _ _ (.inl ⟨_,Γ',rfl,E2.ended nx2 (by show playStand (Γ'.pos iw,Γ'.av iw)=none;rw [hp2];rfl) rfl⟩)) (l.script iw).length 0 gh _ w (by omega) E' nx (by simp [upd])
  simp only [playLoop,seqL,seqR,blkOf,loopOf,Option.getD_some,Try.f50] at key
  exact key _ _ _ _ _ _ _ _ _ _ _ _ _ _ _ _ _ _ _ _ _ _ _ _ _ _ _ _ _ _
end
end Go.Proofs.Ytndppafplgilbaa
namespace Go.Proofs.Ytndppafplgilbaa
open Go Go.Conc Go.RowKit
open Go.ConcN (sumTo upd sumTo_upd upd_ne upd_same)
section
variable {Gh:Type} {sit:Gh→Sit} {h:Nat} {L:Gh→Goroutine→World→Prop} (O:OwnL Try.prog sit h L) {Sk:List Frame→Prop} {H:Nat→Prop} {s:Gh} {w:World} {nb:Nat} {z:Int}
include O
theorem load_nil (hh:Hides (sit s) h H) (ok:HidOk H w) (hn:¬ H nb) (hc:NumC nb z w) :
    CallsL Try.prog L Sk 52 #[.pointer (some (c0 nb 0)),.nilIface] s w (fun r s' w'=>r=.inl (.int .i64 z)∧s'=s∧Grow (sit s).st H (fun _=>False) w w') :=
  callsL_alone O closedA hh (by kernel_rfl) Try.func52 rfl (slots_of rfl rfl) ok (R:=fun v0 x v'=>x=.int .i64 z∧v'=v0) (fun v0 M=>by
    refine (num_load .nilIface nb z _ (fun w'=>v0=w') (pass_nil 1 _) (by rintro w1 rfl;exact M.seen hn hc)).mono ?_
    rintro e w' ⟨rfl,rfl⟩
    exact ⟨rfl,rfl⟩) fun v0 x v' w' M hR A=>by
    obtain ⟨rfl,rfl⟩:=hR
    exact ⟨rfl,rfl,A.grow M fun k _ _=>rfl⟩
end
noncomputable def tailLoop:Code:=loopOf (blkOf (seqR (seqL (seqR playTail))))
noncomputable def tailR25:Code:=seqR (blkOf (seqL (seqR (seqR tailLoop))))
section
variable {Post:Value→World→Prop} {l:List Nat} {st:Addr} {nn n rz rbv pb nbj:Nat} {w:World} {tc:Array Value} {ea:Option Addr} {ec:Nat} {xs:List Value} {z:Int}
set_option maxRecDepth 100000 in
set_option maxHeartbeats 16000000 in
theorem tail_r25 {kk:List Item} {cs:List Frame} (hst:st.spot=none→st.block∈l) (ok:HidOk (fun k=>k∈l) w) (h1:w.heap[pb]?=some (.cells tc 38 (0,0))) (h2:tc[4]?=some (.slice ea n ec)) (h3:pb ∉ l) (h4:w.ownsRow 0 3 1 (.slice ea n ec) n xs) (h5:∀ g,(Value.slice ea n ec).ownBlock=some g→g ∉ l∧g≠pb) (hn:n≤1000) (hnum:NumC nbj z w) (hn1:nbj ∉ l) :
    ∀ y0 y1 y2 y3 y4 y5 y7 y8 y9 y10 y11 y12 y13 y14 y16 y17 y19 y20 y21 y23 y24 y25 y26 y27 y28 y29 y30 y31 y32 y33 y34 y35 y36 y37 y38 y39 y40 y41 y42 y43 y44 y45 y46 y47 y48 y49 y50 y51 y52 y53 y54 y55 y56 y57 y58 y59 y60 y61 y62 y63 y64 y65 y66 y67 y68 y69 y70 y71 y72 y73 y74 y75 y76 y77 y78 y79 y80 y81 y82 y83 y84 y85 y86 y87 y88 y89 y90 y91 y92 y93 y94 y95 y96 y97 y98 y99 y100 y101 y102 y103:Value,(∀ (w':World) (x2:Value),(Grow st (fun k=>k∈l) (fun k=>(Value.slice ea n ec).ownBlock=some k∨k=pb) w w'∧w'.heap[pb]?=some (.cells (tc.setIfInBounds 4 x2) 38 (0,0))∧w'.ownsRow 0 3 1 x2 (n + 1) (xs ++ [.int .i64 z])∧∀ g,x2.ownBlock=some g→g ∉ l∧g≠pb∧((Value.slice ea n ec).ownBlock=some g∨w.heap.size≤g))→∀ z94 z95 z96 z97 z98 z99 z100:Value,LM Try.prog Post (sitI l st nn) (G ((bk 14 .normal).at ⟨#[y0,y1,y2,y3,y4,y5,.pointer (some (c0 rz 0)),y7,y8,y9,y10,y11,y12,y13,y14,.pointer (some (c0 rbv 0)),y16,y17,.pointer (some (c0 pb 0)),y19,y20,y21,.pointer (some (c0 nbj 0)),y23,y24,y25,y26,y27,y28,y29,y30,y31,y32,y33,y34,y35,y36,y37,y38,y39,y40,y41,y42,y43,y44,y45,y46,y47,y48,y49,y50,y51,y52,y53,y54,y55,y56,y57,y58,y59,y60,y61,y62,y63,y64,y65,y66,y67,y68,y69,y70,y71,y72,y73,y74,y75,y76,y77,y78,y79,y80,y81,y82,y83,y84,y85,y86,y87,y88,y89,y90,y91,y92,y93,z94,z95,z96,z97,z98,z99,z100,y101,y102,y103],[]⟩ kk) cs) w') →
    LM Try.prog Post (sitI l st nn) (G ((bk 14 .normal).at ⟨#[y0,y1,y2,y3,y4,y5,.pointer (some (c0 rz 0)),y7,y8,y9,y10,y11,y12,y13,y14,.pointer (some (c0 rbv 0)),y16,y17,.pointer (some (c0 pb 0)),y19,y20,y21,.pointer (some (c0 nbj 0)),y23,y24,y25,y26,y27,y28,y29,y30,y31,y32,y33,y34,y35,y36,y37,y38,y39,y40,y41,y42,y43,y44,y45,y46,y47,y48,y49,y50,y51,y52,y53,y54,y55,y56,y57,y58,y59,y60,y61,y62,y63,y64,y65,y66,y67,y68,y69,y70,y71,y72,y73,y74,y75,y76,y77,y78,y79,y80,y81,y82,y83,y84,y85,y86,y87,y88,y89,y90,y91,y92,y93,y94,y95,y96,y97,y98,y99,y100,y101,y102,y103],[]⟩ (.code tailR25 :: kk)) cs) w:=by
  intro y0 y1 y2 y3 y4 y5 y7 y8 y9 y10 y11 y12 y13 y14 y16 y17 y19 y20 y21 y23 y24 y25 y26 y27 y28 y29 y30 y31 y32 y33 y34 y35 y36 y37 y38 y39 y40 y41 y42 y43 y44 y45 y46 y47 y48 y49 y50 y51 y52 y53 y54 y55 y56 y57 y58 y59 y60 y61 y62 y63 y64 y65 y66 y67 y68 y69 y70 y71 y72 y73 y74 y75 y76 y77 y78 y79 y80 y81 y82 y83 y84 y85 y86 y87 y88 y89 y90 y91 y92 y93 y94 y95 y96 y97 y98 y99 y100 y101 y102 y103 H
  have O:=ownM Try.prog Post
  have T:=O.toCtl
  have hq:(Try.prog.funcs[14]?).any (·.norace)=false:=by rw [Try.func14];rfl
  obtain ⟨i0,hi0,hz0,hz1,hz2⟩:=info_parts info_int
  have hh:=hidesI (n:=nn) hst
  have hW0:=AppG.start (xc:=[.int .i64 z]) hst ok h1 h2 h3 h4 h5 y98 y99
  simp only [tailR25,tailLoop,playTail,blkOf,loopOf,seqL,seqR,Option.getD_some,Try.f14]
  refine l_draw O rfl [[],[0],[],[2],[3],[1,4,3],[0,1,2,3,4,5],[6,5,0,1,2,3,4]] (by kernel_rfl) (fun listed s' a w'=>∃ (b0 b1 b2 b3 b4 b5 b6 b7:Bool) (p:Nat) (x1:Value) (x2:Value),listed=#[b0,b1,b2,b3,b4,b5,b6,b7]∧s'=sitI l st nn∧a=⟨#[y0,y1,y2,y3,y4,y5,.pointer (some (c0 rz 0)),y7,y8,y9,y10,y11,y12,y13,y14,.pointer (some (c0 rbv 0)),y16,y17,.pointer (some (c0 pb 0)),y19,y20,y21,.pointer (some (c0 nbj 0)),y23,y24,y25,y26,y27,y28,y29,y30,y31,y32,y33,y34,y35,y36,y37,y38,y39,y40,y41,y42,y43,y44,y45,y46,y47,y48,y49,y50,y51,y52,y53,y54,y55,y56,y57,y58,y59,y60,y61,y62,y63,y64,y65,y66,y67,y68,y69,y70,y71,y72,y73,y74,y75,y76,y77,y78,y79,y80,y81,y82,y83,y84,y85,y86,y87,y88,y89,y90,y91,y92,y93,(bif b0 then .pointer (some ⟨pb,4,none⟩) else y94),(bif b1 then (.slice ea n ec) else y95),(bif b2 then .pointer (some (c0 nbj 0)) else y96),(bif b3 then .int .i64 z else y97),(bif b4 then x1 else y98),(bif b5 then x2 else y99),(bif b6 then .pointer (some ⟨pb,4,none⟩) else y100),y101,y102,y103],[]⟩∧(b4=true→b3=true)∧(b4=decide (1≤p)∧b5=decide (2≤p)∧b7=decide (3≤p))∧(b5=true→b1=true)∧AppG (st) (fun k=>k∈l) w pb 4 (tc) 38 3 1 (.slice ea n ec) (n) (xs) ([.int .i64 z]) p x1 x2 w') ?init ?fin ?step
  case init=>exact ⟨false,false,false,false,false,false,false,false,0,y98,y99,rfl,rfl,rfl,(fun h=>(by cases h)),⟨rfl,rfl,rfl⟩,(fun h=>(by cases h)),hW0⟩
  case fin =>
    rintro s' a w' ⟨b0,b1,b2,b3,b4,b5,b6,b7,p,x1,x2,hl,rfl,rfl,hx0,hc,h7,hW⟩
    have hl':(#[true,true,true,true,true,true,true,true]:Array Bool)=#[b0,b1,b2,b3,b4,b5,b6,b7]:=hl
    simp only [Array.mk.injEq,List.cons.injEq,and_true] at hl'
    obtain ⟨rfl,rfl,rfl,rfl,rfl,rfl,rfl,rfl⟩:=hl'
    simp only [cond_true,cond_false]
    have hp3:3≤p:=by have:=hc.2.2;simp at this;omega
    have hp5:p=3:=by have:=hW.le;omega
    subst hp5
    exact H w' _ hW.done _ _ _ _ _ _ _
  case step =>
    rintro listed s' a w' i rest ⟨b0,b1,b2,b3,b4,b5,b6,b7,p,x1,x2,hl,rfl,rfl,hx0,hc,h7,hW⟩ hi hf hd hrs hn
    subst hl
    have hi':i < 8:=hi
    have:i=0∨i=1∨i=2∨i=3∨i=4∨i=5∨i=6∨i=7:=by omega
    rcases this with rfl | rfl | rfl | rfl | rfl | rfl | rfl | rfl
    · have hbf:b0=false:=hf
      subst hbf
      simp only [cond_true,cond_false]
      refine l_val T (v:=.pointer (some ⟨pb,4,none⟩)) (by simp) rfl (by rfl) (fun w=>by go_simp) (fun w=>by simp [go_sem]) ?_
      exact hn _ _ _ ⟨true,b1,b2,b3,b4,b5,b6,b7,p,x1,x2,rfl,rfl,rfl,hx0,hc,h7,hW⟩
    · have hbf:b1=false:=hf
      subst hbf
      have hbt0:b0=true:=hd 0 (by simp)
      subst hbt0
      simp only [cond_true,cond_false]
      have hA:b5=false:=by
        cases b5 with
        | false=>rfl
        | true=>exact absurd (h7 rfl) (by simp)
      subst hA
      have hp2:p≤2:=by have:=hc.2.1;simp at this;omega
      have hf0:=hW.c hp2
      refine l_loadH O hh (by simp) rfl (by rfl) hf0 hW.tb0.2.2 (fun w₁ hc₁=>⟨by clear hf0 hp2 hW hc h7 hnum hn1;go_simp,by clear hf0 hp2 hW hc h7 hnum hn1;simp [listed,go_sem,hc₁];exact seen_cell hq _ _ _⟩) ?_
      exact hn _ _ _ ⟨true,true,b2,b3,b4,false,b6,b7,p,x1,x2,rfl,rfl,rfl,hx0,hc,(fun h=>(by cases h)),hW⟩
    · have hbf:b2=false:=hf
      subst hbf
      simp only [cond_true,cond_false]
      refine l_val T (v:=.pointer (some (c0 nbj 0))) (by simp) rfl (by rfl) (fun w=>by go_simp) (fun w=>by simp [go_sem]) ?_
      exact hn _ _ _ ⟨b0,b1,true,b3,b4,b5,b6,b7,p,x1,x2,rfl,rfl,rfl,hx0,hc,h7,hW⟩
    · have hbf:b3=false:=hf
      subst hbf
      have hbt2:b2=true:=hd 2 (by simp)
      subst hbt2
      simp only [cond_true,cond_false]
      have hB:b4=false:=by
        cases b4 with
        | false=>rfl
        | true=>exact absurd (hx0 rfl) (by simp)
      subst hB
      have hp0:p=0:=by have:=hc.1;simp at this;omega
      subst hp0
      have hnum1:NumC nbj z w':=(hW.G.low nbj (Array.getElem?_eq_some_iff.1 hnum).1 hn1 fun h=>by rcases h with ⟨h,_⟩ | ⟨h,_⟩ <;> omega).trans hnum
      refine l_enter T (fn:=Try.f52) (c:=.skip) (g:=52) (xs:=#[.pointer (some (c0 nbj 0)),.nilIface]) (by simp) rfl (by rfl) (fun w=>?_) (fun w=>?_) ?_
      focus (clear hW hc h7 hnum hnum1 hx0;go_simp)
      focus (clear hW hc h7 hnum hnum1 hx0;simp [go_sem,events_into Try.func52 (by kernel_rfl) (by kernel_rfl)])
      refine load_nil O (Sk:=fun _=>True) hh hW.G.ok hn1 hnum1 _ _ trivial (by simp [bk,Frame.at]) rfl (fun v' s'' w1 hP=>?_) (fun ch s'' w1 hP=>by cases hP.1)
      obtain ⟨hv,rfl,G1⟩:=hP
      cases hv
      rw [bk_finish rfl]
      exact hn _ _ _ ⟨b0,b1,true,true,false,b5,b6,b7,0,x1,x2,rfl,rfl,rfl,(fun _=>rfl),hc,h7,hW.grow G1⟩
    · have hbf:b4=false:=hf
      subst hbf
      have hbt3:b3=true:=hd 3 (by simp)
      subst hbt3
      simp only [cond_true,cond_false]
      have hp0:p=0:=by have:=hc.1;simp at this;omega
      subst hp0
      have hA:b5=false:=by have:=hc.2.1;simpa using this
      have hS:b7=false:=by have:=hc.2.2;simpa using this
      subst hA
      subst hS
      refine l_mask O (F:=fun _=>false) (fun f h=>by cases h) hh (by simp) hW.G.ok rfl (by rfl) (by kernel_rfl) (R:=fun v x v'=>x=.slice (some ⟨v.heap.size,0,none⟩) 1 1∧v'=v.alloc (.cells ([.int .i64 z]).toArray 3)) (fun v M=>?_) (fun v x v' w1 M hR Al=>?_)
      · refine ⟨_,_,?_,rfl,rfl⟩
        clear hW hc h7 hnum hn1
        go_simp
      obtain ⟨rfl,rfl⟩:=hR
      have hW1:=hW.built M Al
      exact hn _ _ _ ⟨b0,b1,b2,true,true,false,b6,false,1,_,x2,rfl,rfl,rfl,(fun _=>rfl),⟨rfl,rfl,rfl⟩,(fun h=>(by cases h)),hW1⟩
    · have hbf:b5=false:=hf
      subst hbf
      have hbt1:b1=true:=hd 1 (by simp)
      subst hbt1
      have hbt4:b4=true:=hd 4 (by simp)
      subst hbt4
      have hbt3:b3=true:=hd 3 (by simp)
      subst hbt3
      simp only [cond_true,cond_false]
      have hp1:p=1:=by have h1:=hc.1;have h2:=hc.2.1;simp at h1 h2;omega
      subst hp1
      have hS:b7=false:=by have:=hc.2.2;simpa using this
      subst hS
      obtain ⟨q,e34,hqb,hqH⟩:=hW.s1 rfl
      subst e34
      have hrow:=hW.row (by omega)
      refine l_append O (F:=fun _=>false) (fun f h=>by cases h) hh (by simp) hW.G.ok rfl (by rfl) rfl Try.underlying22 hi0 hz0 hz1 hz2 (by rfl) (by decide) (v:=.slice ea n ec) (by simp [Act.eval]) hrow (fun g hg=>(hW.row0.2 g hg).1) (ad:=⟨q,0,none⟩) (news:=[.int .i64 z]) (c:=1) (m:=1) (by simp [Act.eval]) rfl (fun j u hj=>?_) hqH (fun u hu=>?_) (by decide) (by simp [maxLen];omega) (by omega) (fun g cap w1 hown G1 hg hgH hgl=>?_)
      · have e:(⟨q,0,none⟩:Addr).add j=⟨q,j,none⟩:=by simp [Addr.add];omega
        rw [e,cell_of (a:=⟨q,j,none⟩) hqb rfl]
        simpa using hj
      · simp at hu;subst hu;rfl
      have hW1:=hW.appended hown G1 hg
      exact hn _ _ _ ⟨b0,true,b2,true,true,true,b6,false,2,_,_,rfl,rfl,rfl,hx0,⟨rfl,rfl,rfl⟩,(fun _=>rfl),hW1⟩
    · have hbf:b6=false:=hf
      subst hbf
      have hbt0:b0=true:=hd 0 (by simp)
      subst hbt0
      have hbt1:b1=true:=hd 1 (by simp)
      subst hbt1
      have hbt2:b2=true:=hd 2 (by simp)
      subst hbt2
      have hbt3:b3=true:=hd 3 (by simp)
      subst hbt3
      have hbt4:b4=true:=hd 4 (by simp)
      subst hbt4
      have hbt5:b5=true:=hd 5 (by simp)
      subst hbt5
      simp only [cond_true,cond_false]
      refine l_val T (v:=.pointer (some ⟨pb,4,none⟩)) (by simp) rfl (by rfl) (fun w=>by go_simp) (fun w=>by simp [go_sem]) ?_
      exact hn _ _ _ ⟨true,true,true,true,true,true,true,b7,p,x1,x2,rfl,rfl,rfl,hx0,hc,h7,hW⟩
    · have hbf:b7=false:=hf
      subst hbf
      have hbt6:b6=true:=hd 6 (by simp)
      subst hbt6
      have hbt5:b5=true:=hd 5 (by simp)
      subst hbt5
      have hbt0:b0=true:=hd 0 (by simp)
      subst hbt0
      have hbt1:b1=true:=hd 1 (by simp)
      subst hbt1
      have hbt2:b2=true:=hd 2 (by simp)
      subst hbt2
      have hbt3:b3=true:=hd 3 (by simp)
      subst hbt3
      have hbt4:b4=true:=hd 4 (by simp)
      subst hbt4
      simp only [cond_true,cond_false]
      have hp2:p=2:=by have h1:=hc.2.1;have h2:=hc.2.2;simp at h1 h2;omega
      subst hp2
      obtain ⟨sa,sn,scp,e35⟩:=hW.sl (by omega)
      subst e35
      have htb:=hW.tbc (by omega)
      refine l_storeM O hh (by simp) hW.G.ok rfl (by rfl) (by kernel_rfl) htb hW.tb0.2.2 (off:=4) (y:=.slice sa sn scp) (fun v hv=>?_) (fun w1 hw1 G1 hs1=>?_)
      · have hcell:v.cell? ⟨pb,4,none⟩=some (.slice ea n ec):=cell_of_heap hv hW.tb0.2.1
        have hfr:v.frozen? ⟨pb,4,none⟩=false:=frozen_of_heap hv
        clear hv htb hW hc h7 hnum hn1
        go_simp
      have hW1:=hW.stored hw1 G1
      exact hn _ _ _ ⟨true,true,true,true,true,true,true,true,3,_,_,rfl,rfl,rfl,hx0,⟨rfl,rfl,rfl⟩,(fun _=>rfl),hW1⟩
end
end Go.Proofs.Ytndppafplgilbaa
namespace Go.Proofs.Ytndppafplgilbaa
open Go Go.Conc Go.RowKit
open Go.ConcN (sumTo upd sumTo_upd upd_ne upd_same)
structure TailC (st:Addr) (l:List Nat) (wb:World) (pb:Nat) (q:List Value) (cs:List Int) (j:Nat) (ev:Value) (w:World):Prop where
  G:Grow st (fun k=>k∈l) (fun k=>k=pb) wb w
  p:w.heap[pb]?=some (.cells (q ++ [ev]).toArray 38 (0,0))
  row:w.ownsRow 0 3 1 ev j ((cs.take j).map (Value.int .i64))
  evO:∀ g,ev.ownBlock=some g→g ∉ l∧g≠pb∧wb.heap.size≤g
section
variable {Post:Value→World→Prop} {l:List Nat} {st:Addr} {nn m rz rbv pb rowB:Nat} {nb:Nat→Nat} {wb:World} {q:List Value} {cs:List Int} {e7 er:Int}
set_option maxRecDepth 100000 in
set_option maxHeartbeats 16000000 in
theorem tail_rounds {c:Frame} {cf:List Frame} (hst:st.spot=none→st.block∈l) (hq4:q.length=4) (hm:cs.length=m) (hm64:m≤64) (hpl:pb < wb.heap.size) (hpH:pb ∉ l) (hrow:∀ j,j < m→wb.cell? ⟨rowB,j,none⟩=some (.pointer (some (c0 (nb j) 0)))) (hrH:rowB ∉ l∧rowB≠pb) (hnums:∀ j (h:j < cs.length),NumC (nb j) cs[j] wb) (hnH:∀ j,j < m→nb j ∉ l∧nb j≠pb)
    (H:∀ (w:World) (ev:Value),TailC st l wb pb q cs m ev w→∀ y0 y1 y2 y3 y4 y5 y8 y9 y10 y11 y12 y13 y14 y16 y17 y19 y21 y22 y23 y24 y25 y26 y27 y28 y29 y30 y31 y32 y33 y34 y35 y36 y37 y38 y39 y40 y41 y42 y43 y44 y45 y46 y47 y48 y49 y50 y51 y52 y53 y54 y55 y56 y57 y58 y59 y60 y61 y62 y63 y64 y65 y66 y67 y68 y69 y70 y71 y72 y73 y74 y75 y76 y77 y78 y79 y80 y81 y82 y83 y84 y85 y86 y87 y91 y92 y93 y94 y95 y96 y97 y98 y99 y100 y101 y102 y103:Value,LM Try.prog Post (sitI l st nn) (G ((bk 14 .normal).at ⟨#[y0,y1,y2,y3,y4,y5,.pointer (some (c0 rz 0)),.int .i64 e7,y8,y9,y10,y11,y12,y13,y14,.pointer (some (c0 rbv 0)),y16,y17,.pointer (some (c0 pb 0)),y19,.int .i64 er,y21,y22,y23,y24,y25,y26,y27,y28,y29,y30,y31,y32,y33,y34,y35,y36,y37,y38,y39,y40,y41,y42,y43,y44,y45,y46,y47,y48,y49,y50,y51,y52,y53,y54,y55,y56,y57,y58,y59,y60,y61,y62,y63,y64,y65,y66,y67,y68,y69,y70,y71,y72,y73,y74,y75,y76,y77,y78,y79,y80,y81,y82,y83,y84,y85,y86,y87,.slice (some ⟨rowB,0,none⟩) m m,.int .i64 (m:Int),.int .i64 (m:Int),y91,y92,y93,y94,y95,y96,y97,y98,y99,y100,y101,y102,y103],[]⟩ [.code (seqR (seqR playTail))]) (c :: cf)) w) :
    ∀ d j (ev:Value) (w:World),j + d=m→TailC st l wb pb q cs j ev w→∀ y0 y1 y2 y3 y4 y5 y8 y9 y10 y11 y12 y13 y14 y16 y17 y19 y21 y22 y23 y24 y25 y26 y27 y28 y29 y30 y31 y32 y33 y34 y35 y36 y37 y38 y39 y40 y41 y42 y43 y44 y45 y46 y47 y48 y49 y50 y51 y52 y53 y54 y55 y56 y57 y58 y59 y60 y61 y62 y63 y64 y65 y66 y67 y68 y69 y70 y71 y72 y73 y74 y75 y76 y77 y78 y79 y80 y81 y82 y83 y84 y85 y86 y87 y91 y92 y93 y94 y95 y96 y97 y98 y99 y100 y101 y102 y103:Value,LM Try.prog Post (sitI l st nn) (G ((bk 14 .normal).at ⟨#[y0,y1,y2,y3,y4,y5,.pointer (some (c0 rz 0)),.int .i64 e7,y8,y9,y10,y11,y12,y13,y14,.pointer (some (c0 rbv 0)),y16,y17,.pointer (some (c0 pb 0)),y19,.int .i64 er,y21,y22,y23,y24,y25,y26,y27,y28,y29,y30,y31,y32,y33,y34,y35,y36,y37,y38,y39,y40,y41,y42,y43,y44,y45,y46,y47,y48,y49,y50,y51,y52,y53,y54,y55,y56,y57,y58,y59,y60,y61,y62,y63,y64,y65,y66,y67,y68,y69,y70,y71,y72,y73,y74,y75,y76,y77,y78,y79,y80,y81,y82,y83,y84,y85,y86,y87,.slice (some ⟨rowB,0,none⟩) m m,.int .i64 (m:Int),.int .i64 (j:Int),y91,y92,y93,y94,y95,y96,y97,y98,y99,y100,y101,y102,y103],[]⟩ [.code tailLoop,.inLoop tailLoop,.inBlock 4,.code (seqR (seqR playTail))]) (c :: cf)) w:=by
  intro d
  induction d with
  | zero =>
    intro j ev w hj X y0 y1 y2 y3 y4 y5 y8 y9 y10 y11 y12 y13 y14 y16 y17 y19 y21 y22 y23 y24 y25 y26 y27 y28 y29 y30 y31 y32 y33 y34 y35 y36 y37 y38 y39 y40 y41 y42 y43 y44 y45 y46 y47 y48 y49 y50 y51 y52 y53 y54 y55 y56 y57 y58 y59 y60 y61 y62 y63 y64 y65 y66 y67 y68 y69 y70 y71 y72 y73 y74 y75 y76 y77 y78 y79 y80 y81 y82 y83 y84 y85 y86 y87 y91 y92 y93 y94 y95 y96 y97 y98 y99 y100 y101 y102 y103
    have O:=ownM Try.prog Post
    have T:=O.toCtl
    have hj:j=m:=by omega
    subst hj
    have key:=H w ev X
    simp only [tailLoop,playTail,seqL,seqR,blkOf,loopOf,Option.getD_some,Try.f14] at key ⊢
    refine laW ?_
    (refine l_cond T false (by simp [Act.eval] <;> omega) ?_;simp only [if_true,if_false,Bool.false_eq_true,↓reduceIte])
    refine l_exit T rfl ?_
    exact key _ _ _ _ _ _ _ _ _ _ _ _ _ _ _ _ _ _ _ _ _ _ _ _ _ _ _ _ _ _ _ _ _ _ _ _ _ _ _ _ _ _ _ _ _ _ _ _ _ _ _ _ _ _ _ _ _ _ _ _ _ _ _ _ _ _ _ _ _ _ _ _ _ _ _ _ _ _ _ _ _ _ _ _ _ _ _ _ _ _ _ _ _ _ _ _
  | succ d ih =>
    intro j ev w hj X y0 y1 y2 y3 y4 y5 y8 y9 y10 y11 y12 y13 y14 y16 y17 y19 y21 y22 y23 y24 y25 y26 y27 y28 y29 y30 y31 y32 y33 y34 y35 y36 y37 y38 y39 y40 y41 y42 y43 y44 y45 y46 y47 y48 y49 y50 y51 y52 y53 y54 y55 y56 y57 y58 y59 y60 y61 y62 y63 y64 y65 y66 y67 y68 y69 y70 y71 y72 y73 y74 y75 y76 y77 y78 y79 y80 y81 y82 y83 y84 y85 y86 y87 y91 y92 y93 y94 y95 y96 y97 y98 y99 y100 y101 y102 y103
    have O:=ownM Try.prog Post
    have T:=O.toCtl
    have hq:(Try.prog.funcs[14]?).any (·.norace)=false:=by rw [Try.func14];rfl
    have hh:=hidesI (n:=nn) hst
    have hjm:j < m:=by omega
    have hlow:∀ k,k < wb.heap.size→k ∉ l→k≠pb→w.heap[k]?=wb.heap[k]?:=fun k h1 h2 h3=>X.G.low k h1 h2 h3
    have hr0:=hrow j hjm
    have hr1:w.cell? ⟨rowB,j,none⟩=some (.pointer (some (c0 (nb j) 0))):=by
      rw [cell_of_block (hlow rowB (World.block_lt_of_cell? wb ⟨rowB,j,none⟩ hr0) hrH.1 hrH.2)];exact hr0
    have hn0:=hnums j (by omega)
    have hn1:NumC (nb j) (cs[j]'(by omega)) w:=(hlow (nb j) (Array.getElem?_eq_some_iff.1 hn0).1 (hnH j hjm).1 (hnH j hjm).2).trans hn0
    obtain ⟨ea,ec,rfl⟩:=row_shape X.row
    simp only [tailLoop,seqL,seqR,blkOf,loopOf,playTail,Option.getD_some,Try.f14]
    refine laW ?_
    (refine l_cond T true (by simp [Act.eval] <;> omega) ?_;simp only [if_true,if_false,Bool.false_eq_true,↓reduceIte])
    refine laW ?_
    refine l_block T ?_
    refine laW ?_
    (refine l_val T (v:=.pointer (some ⟨rowB,j,none⟩)) (by simp) rfl (by rfl) (fun w=>?_) (fun w=>?_) ?_;(focus go_simp);(focus (simp [go_sem,hjm]));walk_nrm)
    (refine l_loadH O hh (by simp) rfl (by rfl) hr1 hrH.1 (fun w₁ hc₁=>⟨by go_simp,by simp [listed,go_sem,hc₁];exact seen_cell hq _ _ _⟩) ?_;walk_nrm)
    refine laW ?_
    have key:=tail_r25 (Post:=Post) (l:=l) (nn:=nn) (n:=j) (rz:=rz) (rbv:=rbv) (w:=w) (nbj:=nb j) (ec:=ec) (kk:=[.inBlock 5,.code (seqR (seqR (seqR tailLoop))),.inLoop tailLoop,.inBlock 4,.code (seqR (seqR playTail))]) (cs:=c :: cf) hst X.G.ok X.p (by simp [hq4]) hpH X.row (fun g hg=>⟨(X.evO g hg).1,(X.evO g hg).2.1⟩) (by omega) hn1 (hnH j hjm).1
    simp only [tailR25,tailLoop,seqL,seqR,blkOf,loopOf,playTail,Option.getD_some,Try.f14] at key
    refine key _ _ _ _ _ _ _ _ _ _ _ _ _ _ _ _ _ _ _ _ _ _ _ _ _ _ _ _ _ _ _ _ _ _ _ _ _ _ _ _ _ _ _ _ _ _ _ _ _ _ _ _ _ _ _ _ _ _ _ _ _ _ _ _ _ _ _ _ _ _ _ _ _ _ _ _ _ _ _ _ _ _ _ _ _ _ _ _ _ _ _ _ _ _ _ _ _ _ _ _ (fun w' x2 hD=>?_)
    clear key
    intro z94 z95 z96 z97 z98 z99 z100
    refine l_inBlock T ?_
    simp only [tailLoop,seqL,seqR,blkOf,loopOf,playTail,Option.getD_some,Try.f14] at ih ⊢
    refine laW ?_
    have ew:IntKind.i64.wrap ((j:Int) + 1)=((j + 1:Nat):Int):=by rw [IntKind.wrap_i64];omega
    try simp only [ew]
    refine l_inLoop T ?_
    obtain ⟨D1,D2,D3,D4⟩:=hD
    refine ih (j + 1) x2 w' (by omega) ⟨X.G.transN hst D1 (fun k h=>h) (fun k hk h=>?_),?_,?_,fun g hg=>?_⟩ _ _ _ _ _ _ _ _ _ _ _ _ _ _ _ _ _ _ _ _ _ _ _ _ _ _ _ _ _ _ _ _ _ _ _ _ _ _ _ _ _ _ _ _ _ _ _ _ _ _ _ _ _ _ _ _ _ _ _ _ _ _ _ _ _ _ _ _ _ _ _ _ _ _ _ _ _ _ _ _ _ _ _ _ _ _ _ _ _ _ _ _ _ _ _ _
    · rcases h with h | h
      · have:=(X.evO k h).2.2;omega
      · exact h
    · rw [D2]
      congr 2
      apply Array.ext_getElem?
      intro i
      rcases q with _ | ⟨q0,_ | ⟨q1,_ | ⟨q2,_ | ⟨q3,_ | ⟨q4,q⟩⟩⟩⟩⟩ <;> simp at hq4
      simp [Array.getElem?_setIfInBounds]
    · rw [List.take_succ_eq_append_getElem (by omega),List.map_append]
      exact D3
    · obtain ⟨a1,a2,a3⟩:=D4 g hg
      refine ⟨a1,a2,?_⟩
      rcases a3 with a3 | a3
      · exact (X.evO g a3).2.2
      · have:=X.G.size;omega
end
end Go.Proofs.Ytndppafplgilbaa
namespace Go.Proofs.Ytndppafplgilbaa
open Go Go.Conc Go.RowKit
open Go.ConcN (sumTo upd sumTo_upd upd_ne upd_same)
section
variable {Gh:Type} {sit:Gh→Sit} {h:Nat} {L:Gh→Goroutine→World→Prop} (O:OwnL Try.prog sit h L) {Sk:List Frame→Prop} {H:Nat→Prop} {s:Gh} {w:World}
theorem Masked.ints {v w:World} {H:Nat→Prop} (M:Masked H 0 v w) {a:Option Addr} {l:List Int} (h:IntsIn w a l) (hH:∀ b off,a=some ⟨b,off,none⟩→l≠[]→¬ H b):IntsIn v a l:=fun j hj=>by
  obtain ⟨b,off,e,h1⟩:=h j hj
  exact ⟨b,off,e,M.cellIn (a:=⟨b,off + j,none⟩) (hH b off e (fun e=>by rw [e] at hj;simp at hj)) h1⟩
theorem Masked.acts {v w:World} {H:Nat→Prop} (M:Masked H 0 v w) {a:Option Addr} {l:List A4} (h:ActsIn w a l) (hH:∀ b off,a=some ⟨b,off,none⟩→l≠[]→¬ H b):ActsIn v a l:=fun j hj=>by
  obtain ⟨b,off,e,h1,h2,h3,h4⟩:=h j hj
  have hb:=hH b off e (fun e=>by rw [e] at hj;simp at hj)
  exact ⟨b,off,e,M.cellIn (a:=⟨b,off + j * 4,none⟩) hb h1,M.cellIn (a:=⟨b,off + j * 4 + 1,none⟩) hb h2,M.cellIn (a:=⟨b,off + j * 4 + 2,none⟩) hb h3,M.cellIn (a:=⟨b,off + j * 4 + 3,none⟩) hb h4⟩
def ScrFree (H:Nat→Prop) (so:Option Addr) (ao:Nat→Option Addr) (ss:List (List A4)):Prop:=(∀ b off,so=some ⟨b,off,none⟩→ss≠[]→¬ H b)∧∀ j (h:j < ss.length),∀ b off,ao j=some ⟨b,off,none⟩→ss[j]≠[]→¬ H b
theorem Masked.scripts {v w:World} {H:Nat→Prop} (M:Masked H 0 v w) {so:Option Addr} {ao:Nat→Option Addr} {acap:Nat→Nat} {ss:List (List A4)} (h:ScriptsIn w so ao acap ss) (hH:ScrFree H so ao ss):ScriptsIn v so ao acap ss:=by
  refine ⟨fun j hj=>?_,fun j hj=>M.acts (h.acts j hj) (hH.2 j hj)⟩
  obtain ⟨b,off,e,h1⟩:=h.at_ j hj
  exact ⟨b,off,e,M.cellIn (a:=⟨b,off + j,none⟩) (hH.1 b off e (fun e=>by rw [e] at hj;simp at hj)) h1⟩
theorem ScriptsIn.kept {w w':World} {so:Option Addr} {ao:Nat→Option Addr} {acap:Nat→Nat} {ss:List (List A4)} (h:ScriptsIn w so ao acap ss) {H:Nat→Prop} (hH:ScrFree H so ao ss) (hk:∀ k,k < w.heap.size→¬ H k→w'.heap[k]?=w.heap[k]?):ScriptsIn w' so ao acap ss:=by
  refine ⟨fun j hj=>?_,fun j hj=>fun i hi=>?_⟩
  · obtain ⟨b,off,e,h1⟩:=h.at_ j hj
    exact ⟨b,off,e,by rw [cell_of_block (hk b (World.block_lt_of_cell? w ⟨b,off + j,none⟩ h1) (hH.1 b off e (fun e=>by rw [e] at hj;simp at hj)))];exact h1⟩
  · obtain ⟨b,off,e,h1,h2,h3,h4⟩:=h.acts j hj i hi
    have hb:=hk b (World.block_lt_of_cell? w ⟨b,off + i * 4,none⟩ h1) (hH.2 j hj b off e (fun e=>by rw [e] at hi;simp at hi))
    exact ⟨b,off,e,by rw [cell_of_block hb];exact h1,by rw [cell_of_block hb];exact h2,by rw [cell_of_block hb];exact h3,by rw [cell_of_block hb];exact h4⟩
theorem IntsIn.keptH {w w':World} {a:Option Addr} {l:List Int} (h:IntsIn w a l) {H:Nat→Prop} (hH:∀ b off,a=some ⟨b,off,none⟩→l≠[]→¬ H b) (hk:∀ k,k < w.heap.size→¬ H k→w'.heap[k]?=w.heap[k]?):IntsIn w' a l:=fun j hj=>by
  obtain ⟨b,off,e,h1⟩:=h j hj
  exact ⟨b,off,e,by rw [cell_of_block (hk b (World.block_lt_of_cell? w ⟨b,off + j,none⟩ h1) (hH b off e (fun e=>by rw [e] at hj;simp at hj)))];exact h1⟩
include O
theorem contains_calls (hh:Hides (sit s) h H) (ok:HidOk H w) {so:Option Addr} {scap:Nat} {ao:Nat→Option Addr} {acap:Nat→Nat} {ss:List (List A4)} (hn:ss.length≤64) (hs:ScriptsIn w so ao acap ss) (hF:ScrFree H so ao ss) :
    CallsL Try.prog L Sk 47 #[.slice so ss.length scap,.func (.func 48) #[] #[]] s w (fun r s' w'=>r=.inl (.bool (!allFew (ss.map (·.length))))∧s'=s∧Grow (sit s).st H (fun _=>False) w w') :=
  callsL_alone O closedA hh (by kernel_rfl) Try.func47 rfl (slots_of rfl (by kernel_rfl)) ok (R:=fun v0 x v'=>x=.bool (!allFew (ss.map (·.length)))∧v'=v0) (fun v0 M=>by
    have hs1:=M.scripts hs hF
    have key:=containsL_any so scap (ss.mapIdx fun j s=>.slice (ao j) s.length (acap j)) (ss.map (·.length)) v0 (by simpa using hn) (fun j hj=>by
      have hj':j < ss.length:=by simpa using hj
      obtain ⟨b,off,e,h1⟩:=hs1.at_ j hj'
      exact ⟨b,off,e,by simpa using h1⟩) ⟨by simp,fun j hj=>⟨ao j,acap j,by
        have hj':j < ss.length:=by simpa using hj
        simp [List.getElem?_mapIdx,List.getElem?_eq_getElem hj']⟩⟩
    rw [List.length_map] at key
    refine key.mono ?_
    rintro e w' ⟨rfl,rfl⟩
    exact ⟨rfl,rfl⟩) fun v0 x v' w' M hR A=>by
    obtain ⟨rfl,rfl⟩:=hR
    exact ⟨rfl,rfl,A.grow M fun k _ _=>rfl⟩
end
end Go.Proofs.Ytndppafplgilbaa
