/-
  larchlaw04.BatonThins returns true for every input. No condition. (Part 38 of 49; joined by program.)
-/
import Derived.Test.YtndppafplgilbaaL37
set_option linter.unusedVariables false
set_option linter.unusedSimpArgs false
set_option linter.unusedSectionVars false
set_option maxRecDepth 100000
namespace Go.Proofs.Ytndppafplgilbaa
open Go Go.Conc Go.RowKit
open Go.ConcN (sumTo upd sumTo_upd upd_ne upd_same)
theorem info_wp:(Try.prog.info? wkP).map (fun i=>(i.zero,i.size,i.bytes))=some (some (.pointer none),1,8):=by kernel_rfl
theorem noShun0 (gm:Gm):¬ ShunOf (gm.gb :: gm.old) (.cell ⟨gm.gb,0,none⟩):=by
  rintro ⟨k,hk,h⟩
  rcases h with h | h <;> (injection h with h;injection h with h1 h2;omega)
section
variable {C:Cli} {ty pty:TypeId} {P:Program} {Post:Value→World→Prop} {gm:Gm} {Γ:C.G} {keep dead:Nat→Prop} {w w1:World} {R:World→Prop} {n vr bl:Nat} {rv x stv x6 x7:Value} {xs:List Value} {b6 b7 b10:Bool}
structure GAppW (C:Cli) (ty pty:TypeId) (P:Program) (Post:Value→World→Prop) (gm:Gm) (Γ:C.G) (keep dead:Nat→Prop) (R:World→Prop) (rv:Value) (n:Nat) (xs:List Value) (x stv:Value) (b6 b7 b10:Bool) (x6 x7:Value) (w:World):Prop where
  MW:Main C ty pty P Post gm Γ keep dead w
  r:R w
  rk:∀ w1 w2,R w1→Grow (c0 gm.gb 1) gm.H (fun k=>rv.ownBlock=some k) w1 w2→R w2
  rs:∀ w1 y,R w1→R (w1.setCell ⟨gm.gb,0,none⟩ y)
  rvO:∀ g,rv.ownBlock=some g→Own C gm Γ keep g
  nbx:∀ g,rv.ownBlock=some g→¬ gm.box g
  g:b10=false→GmG gm.gb rv stv w
  row:b7=false→w.ownsRow 0 pty 1 rv n xs
  s1:b7=false→b6=true→∃ nb,x6=.slice (some ⟨nb,0,none⟩) 1 1∧w.heap[nb]?=some (.cells #[x] pty (0,0))∧¬ gm.H nb
  s2:b7=true→∃ g cap,x7=.slice (some ⟨g,0,none⟩) (n + 1) cap∧w.ownsRow 0 pty 1 x7 (n + 1) (xs ++ [x])∧Own C gm Γ keep g∧¬ gm.box g
  s3:b10=true→b7=true∧GmG gm.gb x7 stv w
theorem GAppW.built (W:GAppW C ty pty P Post gm Γ keep dead R rv n xs x stv false false b10 x6 x7 w) (hn:w1.heap[w.heap.size]?=some (.cells #[x] pty (0,0))) (G1:Grow (c0 gm.gb 1) gm.H (fun _=>False) w w1):GAppW C ty pty P Post gm Γ keep dead R rv n xs x stv true false b10 (.slice (some ⟨w.heap.size,0,none⟩) 1 1) x7 w1:=by
  refine ⟨W.MW.grow G1 fun x h=>h.elim,W.rk _ _ W.r ⟨G1.hid,G1.ok,fun k h1 h2 _=>G1.low k h1 h2 id,G1.size⟩,W.rk,W.rs,W.rvO,W.nbx,fun h=>(W.g h).grow G1 (.inl rfl),fun h=>?_,fun _ _=>⟨_,rfl,hn,(W.MW.free (Nat.le_refl _)).H⟩,fun h=>(by cases h),fun h=>(by have:=(W.s3 h).1;cases this)⟩
  have a:=W.row h
  exact ownsRow_of (fun g hg=>G1.low g (ownsRow_lt a g hg) (W.rvO g hg).H id) a
theorem GAppW.appended (W:GAppW C ty pty P Post gm Γ keep dead R rv n xs x stv true false false x6 x7 w) {g cap:Nat} (hown:w1.ownsRow 0 pty 1 (.slice (some ⟨g,0,none⟩) (n + 1) cap) (n + 1) (xs ++ [x])) (G1:Grow (c0 gm.gb 1) gm.H (fun k=>rv.ownBlock=some k) w w1) (hg:rv.ownBlock=some g∨g=w.heap.size):GAppW C ty pty P Post gm Γ keep dead R rv n xs x stv true true false x6 (.slice (some ⟨g,0,none⟩) (n + 1) cap) w1:=by
  refine ⟨W.MW.grow G1 fun y h hy=>⟨(W.rvO y h).foot,(W.rvO y h).H,(W.rvO y h).chan,W.nbx y h⟩,W.rk _ _ W.r G1,W.rk,W.rs,W.rvO,W.nbx,fun h=>(W.g h).grow G1 (.inl rfl),fun h=>(by cases h),fun h=>(by cases h),fun _=>⟨g,cap,rfl,hown,?_⟩,fun h=>(by cases h)⟩
  rcases hg with hg | hg
  · exact ⟨W.rvO g hg,W.nbx g hg⟩
  · subst hg
    exact ⟨W.MW.fresh (Nat.le_refl _),fun h=>by have:=W.MW.kplow (.inr (.inr h));omega⟩
theorem GAppW.stored (W:GAppW C ty pty P Post gm Γ keep dead R rv n xs x stv b6 true false x6 x7 w):GAppW C ty pty P Post gm Γ keep dead R rv n xs x stv b6 true true x6 x7 (w.setCell ⟨gm.gb,0,none⟩ x7):=by
  have hne:∀ k,k≠gm.gb→(w.setCell ⟨gm.gb,0,none⟩ x7).heap[k]?=w.heap[k]?:=fun k hk=>setCell_ne w ⟨gm.gb,0,none⟩ x7 hk
  have hgH:gm.H gm.gb:=.inl rfl
  have MW1:Main C ty pty P Post gm Γ keep dead (w.setCell ⟨gm.gb,0,none⟩ x7):=by
    refine W.MW.own (fun x hx hxg=>hne x hxg) (fun x hx=>?_) (fun x hx=>hne x fun e=>W.MW.Hfoot _ hgH (e ▸ hx)) (fun x hx=>hne x fun e=>?_) (by rw [setCell_size];exact Nat.le_refl _)
    · obtain ⟨c,e,a,b⟩:=W.MW.hid x hx
      by_cases ex:x=gm.gb
      · subst ex
        exact ⟨_,e,setCell_self (a:=⟨gm.gb,0,none⟩) x7 a rfl,by simpa using b⟩
      · exact ⟨c,e,(hne x ex).trans a,b⟩
    · subst e
      rcases hx with hx | hx
      · exact W.MW.wf.chanH hx hgH
      · exact (W.MW.bxfoot _ hx).2 hgH
  refine ⟨MW1,W.rs _ _ W.r,W.rk,W.rs,W.rvO,W.nbx,fun h=>(by cases h),fun h=>(by cases h),fun h=>(by cases h),fun h=>?_,fun _=>⟨rfl,(W.g rfl).ws⟩⟩
  obtain ⟨g,cap,e,h1,h2,h3⟩:=W.s2 h
  refine ⟨g,cap,e,ownsRow_of (fun g' hg=>hne g' ?_) h1,h2,h3⟩
  rw [e] at hg;cases hg
  exact fun e=>h2.H (by have e:g=gm.gb:=e;rw [e];exact hgH)
theorem GAppW.done (W:GAppW C ty pty P Post gm Γ keep dead R rv n xs x stv b6 b7 true x6 x7 w):Main C ty pty P Post gm Γ keep dead w∧R w∧GmG gm.gb x7 stv w∧w.ownsRow 0 pty 1 x7 (n + 1) (xs ++ [x])∧∀ g,x7.ownBlock=some g→Own C gm Γ keep g∧¬ gm.box g:=by
  obtain ⟨h7,hG⟩:=W.s3 rfl
  obtain ⟨g,cap,e,h1,h2,h3⟩:=W.s2 h7
  refine ⟨W.MW,W.r,hG,h1,fun g' hg=>?_⟩
  rw [e] at hg;cases hg
  exact ⟨h2,h3⟩
end
section
variable {C:Cli} {Post:Value→World→Prop} {gm:Gm} {Γ:C.G} {keep dead:Nat→Prop} {w:World}
set_option maxRecDepth 100000 in
set_option maxHeartbeats 8000000 in
theorem beg_r6 {k:List Item} {cs:List Frame} {R:World→Prop} {vr bl:Nat} {rv stv:Value} {xs:List Value} {y0 y1 y2 y3 y4 y6 y8 y9 y10 y11 y12 y13 y14 y15 y16 y17 y18 y19 y20 y21 y22 y23 y24 y25 y26 y27 y28 y29 y30 y31 y32 y33 y34 y35 y36 y37 y38 y39 y40 y41 y42 y43 y44 y45 y46:Value} (hxs:xs.length < 1000) (hvH:¬ gm.H vr) (hRv:∀ w,R w→w.cell? (c0 vr 0)=some (.pointer (some (c0 bl 0)))) (hA:GAppW C wkT wkP Try.prog Post gm Γ keep dead R rv xs.length xs (.pointer (some (c0 bl 0))) stv false false false undef undef w)
    (H:∀ (w':World) (x7:Value),(Main C wkT wkP Try.prog Post gm Γ keep dead w'∧R w'∧GmG gm.gb x7 stv w'∧w'.ownsRow 0 wkP 1 x7 (xs.length + 1) (xs ++ [.pointer (some (c0 bl 0))])∧∀ g,x7.ownBlock=some g→Own C gm Γ keep g∧¬ gm.box g)→∀ (z18 z19 z20 z21 z22 z23 z24 z25 z26 z27:Value),LM Try.prog Post (sitG gm) (G ((bk 53 .normal).at ⟨#[y0,y1,y2,y3,y4,.pointer (some (c0 gm.gb 0)),y6,.pointer (some (c0 vr 0)),y8,y9,y10,y11,y12,y13,y14,y15,y16,y17,z18,z19,z20,z21,z22,z23,z24,z25,z26,z27,y28,y29,y30,y31,y32,y33,y34,y35,y36,y37,y38,y39,y40,y41,y42,y43,y44,y45,y46],[]⟩ k) cs) w') :
    LM Try.prog Post (sitG gm) (G ((bk 53 .normal).at ⟨#[y0,y1,y2,y3,y4,.pointer (some (c0 gm.gb 0)),y6,.pointer (some (c0 vr 0)),y8,y9,y10,y11,y12,y13,y14,y15,y16,y17,y18,y19,y20,y21,y22,y23,y24,y25,y26,y27,y28,y29,y30,y31,y32,y33,y34,y35,y36,y37,y38,y39,y40,y41,y42,y43,y44,y45,y46],[]⟩ (.code begR6 :: k)) cs) w:=by
  have O:=ownM Try.prog Post
  have T:=O.toCtl
  have hq:(Try.prog.funcs[53]?).any (·.norace)=false:=by rw [Try.func53];rfl
  obtain ⟨ti,hsi,hsz1,hsz2,hsz3⟩:=info_parts info_wp
  simp only [begR6,begBody,begLoop,blkOf,loopOf,seqL,seqR,Option.getD_some,Try.f53]
  refine l_draw O rfl [[],[],[1],[2],[3],[],[5],[4,6],[0,1,2,3,4,5,6,7],[8,0,1,2,3,4,5,6,7],[9,7,0,1,2,3,4,5,6]] (by kernel_rfl) (fun listed s' a w'=>∃ (b0 b1 b2 b3 b4 b5 b6 b7 b8 b9 b10:Bool) (x6:Value) (x7:Value),listed=#[b0,b1,b2,b3,b4,b5,b6,b7,b8,b9,b10]∧s'=sitG gm∧a=⟨#[y0,y1,y2,y3,y4,.pointer (some (c0 gm.gb 0)),y6,.pointer (some (c0 vr 0)),y8,y9,y10,y11,y12,y13,y14,y15,y16,y17,(bif b0 then .pointer (some (c0 gm.gb 0)) else y18),(bif b1 then .pointer (some (c0 gm.gb 0)) else y19),(bif b2 then .pointer (some (c0 gm.gb 0)) else y20),(bif b3 then .pointer (some ⟨gm.gb,0,none⟩) else y21),(bif b4 then rv else y22),(bif b5 then .pointer (some (c0 bl 0)) else y23),(bif b6 then x6 else y24),(bif b7 then x7 else y25),(bif b8 then .pointer (some (c0 gm.gb 0)) else y26),(bif b9 then .pointer (some ⟨gm.gb,0,none⟩) else y27),y28,y29,y30,y31,y32,y33,y34,y35,y36,y37,y38,y39,y40,y41,y42,y43,y44,y45,y46],[]⟩∧((b7=true→b4=true)∧(b7=true→b6=true)∧(b10=true→b7=true))∧GAppW C wkT wkP Try.prog Post gm Γ keep dead R rv xs.length xs (.pointer (some (c0 bl 0))) stv b6 b7 b10 x6 x7 w') ?init ?fin ?step
  case init=>exact ⟨false,false,false,false,false,false,false,false,false,false,false,undef,undef,rfl,rfl,rfl,⟨fun h=>(by cases h),fun h=>(by cases h),fun h=>(by cases h)⟩,hA⟩
  case fin =>
    rintro s' a w' ⟨b0,b1,b2,b3,b4,b5,b6,b7,b8,b9,b10,x6,x7,hl,rfl,rfl,hc,hW⟩
    have hl':(#[true,true,true,true,true,true,true,true,true,true,true]:Array Bool)=#[b0,b1,b2,b3,b4,b5,b6,b7,b8,b9,b10]:=hl
    simp only [Array.mk.injEq,List.cons.injEq,and_true] at hl'
    obtain ⟨rfl,rfl,rfl,rfl,rfl,rfl,rfl,rfl,rfl,rfl,rfl⟩:=hl'
    simp only [cond_true,cond_false]
    exact H _ x7 hW.done _ _ _ _ _ _ _ _ _ _
  case step =>
    rintro listed s' a w' i rest ⟨b0,b1,b2,b3,b4,b5,b6,b7,b8,b9,b10,x6,x7,hl,rfl,rfl,hc,hW⟩ hi hf hd hrs hn
    subst hl
    have hi':i < 11:=hi
    have:i=0∨i=1∨i=2∨i=3∨i=4∨i=5∨i=6∨i=7∨i=8∨i=9∨i=10:=by omega
    rcases this with rfl | rfl | rfl | rfl | rfl | rfl | rfl | rfl | rfl | rfl | rfl
    · have hbf:b0=false:=hf
      subst hbf
      simp only [cond_true,cond_false]
      refine l_val T (v:=.pointer (some (c0 gm.gb 0))) (by simp) rfl (by rfl) (fun w=>by go_simp) (fun w=>by simp [go_sem]) ?_
      exact hn _ _ _ ⟨true,b1,b2,b3,b4,b5,b6,b7,b8,b9,b10,x6,x7,rfl,rfl,rfl,hc,hW⟩
    · have hbf:b1=false:=hf
      subst hbf
      simp only [cond_true,cond_false]
      refine l_val T (v:=.pointer (some (c0 gm.gb 0))) (by simp) rfl (by rfl) (fun w=>by go_simp) (fun w=>by simp [go_sem]) ?_
      exact hn _ _ _ ⟨b0,true,b2,b3,b4,b5,b6,b7,b8,b9,b10,x6,x7,rfl,rfl,rfl,hc,hW⟩
    · have hbf:b2=false:=hf
      subst hbf
      have hbt1:b1=true:=hd 1 (by simp)
      subst hbt1
      simp only [cond_true,cond_false]
      refine l_val T (v:=.pointer (some (c0 gm.gb 0))) (by simp) rfl (by rfl) (fun w=>by go_simp) (fun w=>by simp [go_sem]) ?_
      exact hn _ _ _ ⟨b0,true,true,b3,b4,b5,b6,b7,b8,b9,b10,x6,x7,rfl,rfl,rfl,hc,hW⟩
    · have hbf:b3=false:=hf
      subst hbf
      have hbt2:b2=true:=hd 2 (by simp)
      subst hbt2
      simp only [cond_true,cond_false]
      refine l_val T (v:=.pointer (some ⟨gm.gb,0,none⟩)) (by simp) rfl (by rfl) (fun w=>by go_simp) (fun w=>by simp [go_sem]) ?_
      exact hn _ _ _ ⟨b0,b1,true,true,b4,b5,b6,b7,b8,b9,b10,x6,x7,rfl,rfl,rfl,hc,hW⟩
    · have hbf:b4=false:=hf
      subst hbf
      have hbt3:b3=true:=hd 3 (by simp)
      subst hbt3
      simp only [cond_true,cond_false]
      have h7:b7=false:=by
        cases b7 with
        | false=>rfl
        | true=>exact absurd (hc.1 rfl) (by simp)
      subst h7
      have h10:b10=false:=by
        cases b10 with
        | false=>rfl
        | true=>exact absurd (hc.2.2 rfl) (by simp)
      subst h10
      refine l_load O (by simp) rfl (by rfl) (p:=⟨gm.gb,0,none⟩) (x:=rv) (hW.g rfl).at0 (.inr (by simp [sitG])) (noShun0 gm) (fun w₁ hc₁=>⟨by go_simp,by simp [listed,go_sem,hc₁];exact seen_cell hq _ _ _⟩) ?_
      exact hn _ _ _ ⟨b0,b1,b2,true,true,b5,b6,false,b8,b9,false,x6,x7,rfl,rfl,rfl,⟨fun h=>(by cases h),fun h=>(by cases h),fun h=>(by cases h)⟩,hW⟩
    · have hbf:b5=false:=hf
      subst hbf
      simp only [cond_true,cond_false]
      refine l_load O (by simp) rfl (by rfl) (p:=c0 vr 0) (x:=.pointer (some (c0 bl 0))) (hRv _ hW.r) (.inl fun e=>hvH (.inl e)) (fun h=>hvH (shun_H (g:=gm) h)) (fun w₁ hc₁=>⟨by go_simp,by simp [listed,go_sem,hc₁];exact seen_cell hq _ _ _⟩) ?_
      exact hn _ _ _ ⟨b0,b1,b2,b3,b4,true,b6,b7,b8,b9,b10,x6,x7,rfl,rfl,rfl,hc,hW⟩
    · have hbf:b6=false:=hf
      subst hbf
      have hbt5:b5=true:=hd 5 (by simp)
      subst hbt5
      simp only [cond_true,cond_false]
      have h7:b7=false:=by
        cases b7 with
        | false=>rfl
        | true=>exact absurd (hc.2.1 rfl) (by simp)
      subst h7
      refine l_new O hidesG (by simp) hW.MW.hid rfl (by rfl) (by kernel_rfl) (fun n=>.slice (some ⟨n,0,none⟩) 1 1) (c:=#[.pointer (some (c0 bl 0))]) (t:=wkP) (fun v=>by go_simp) (fun w1 hn1 G1 hl1=>?_)
      exact hn _ _ _ ⟨b0,b1,b2,b3,b4,true,true,false,b8,b9,b10,_,x7,rfl,rfl,rfl,⟨fun h=>(by cases h),fun _=>rfl,hc.2.2⟩,hW.built hn1 G1⟩
    · have hbf:b7=false:=hf
      subst hbf
      have hbt4:b4=true:=hd 4 (by simp)
      subst hbt4
      have hbt6:b6=true:=hd 6 (by simp)
      subst hbt6
      simp only [cond_true,cond_false]
      have h10:b10=false:=by
        cases b10 with
        | false=>rfl
        | true=>exact absurd (hc.2.2 rfl) (by simp)
      subst h10
      obtain ⟨nb,rfl,hnb,hnbH⟩:=hW.s1 rfl rfl
      have hrow:=hW.row rfl
      have hl3:([.pointer (some (c0 bl 0))]:List Value).length=1 * 1:=rfl
      refine l_append O (F:=fun _=>false) (fun f h=>by cases h) hidesG (by simp) hW.MW.hid rfl (by rfl) rfl Try.underlying161 hsi hsz1 hsz2 hsz3 (by rfl) (by decide) (v:=rv) (by simp [Act.eval]) hrow (fun g hg=>(hW.rvO g hg).H) (ad:=⟨nb,0,none⟩) (news:=[.pointer (some (c0 bl 0))]) (c:=1) (by simp [Act.eval]) hl3 (fun j u hj=>?_) hnbH (fun u hu=>?_) (by decide) (by simp [maxLen];omega) (by omega) (fun g cap w1 hown G1 hg hgH hgl=>?_)
      · have e:(⟨nb,0,none⟩:Addr).add j=⟨nb,j,none⟩:=by simp [Addr.add];omega
        rw [e,cell_of (a:=⟨nb,j,none⟩) hnb rfl]
        simpa using hj
      · simp only [List.mem_singleton] at hu
        subst hu;rfl
      exact hn _ _ _ ⟨b0,b1,b2,b3,true,b5,true,true,b8,b9,false,_,_,rfl,rfl,rfl,⟨fun _=>rfl,fun _=>rfl,fun h=>(by cases h)⟩,hW.appended hown G1 hg⟩
    · have hbf:b8=false:=hf
      subst hbf
      have hbt0:b0=true:=hd 0 (by simp)
      subst hbt0
      have hbt1:b1=true:=hd 1 (by simp)
      subst hbt1
      have hbt2:b2=true:=hd 2 (by simp)
      subst hbt2
      have hbt3:b3=true:=hd 3 (by simp)
      subst hbt3
      have hbt4:b4=true:=hd 4 (by simp)
      subst hbt4
      have hbt5:b5=true:=hd 5 (by simp)
      subst hbt5
      have hbt6:b6=true:=hd 6 (by simp)
      subst hbt6
      have hbt7:b7=true:=hd 7 (by simp)
      subst hbt7
      simp only [cond_true,cond_false]
      refine l_val T (v:=.pointer (some (c0 gm.gb 0))) (by simp) rfl (by rfl) (fun w=>by go_simp) (fun w=>by simp [go_sem]) ?_
      exact hn _ _ _ ⟨true,true,true,true,true,true,true,true,true,b9,b10,x6,x7,rfl,rfl,rfl,hc,hW⟩
    · have hbf:b9=false:=hf
      subst hbf
      have hbt8:b8=true:=hd 8 (by simp)
      subst hbt8
      have hbt0:b0=true:=hd 0 (by simp)
      subst hbt0
      have hbt1:b1=true:=hd 1 (by simp)
      subst hbt1
      have hbt2:b2=true:=hd 2 (by simp)
      subst hbt2
      have hbt3:b3=true:=hd 3 (by simp)
      subst hbt3
      have hbt4:b4=true:=hd 4 (by simp)
      subst hbt4
      have hbt5:b5=true:=hd 5 (by simp)
      subst hbt5
      have hbt6:b6=true:=hd 6 (by simp)
      subst hbt6
      have hbt7:b7=true:=hd 7 (by simp)
      subst hbt7
      simp only [cond_true,cond_false]
      refine l_val T (v:=.pointer (some ⟨gm.gb,0,none⟩)) (by simp) rfl (by rfl) (fun w=>by go_simp) (fun w=>by simp [go_sem]) ?_
      exact hn _ _ _ ⟨true,true,true,true,true,true,true,true,true,true,b10,x6,x7,rfl,rfl,rfl,hc,hW⟩
    · have hbf:b10=false:=hf
      subst hbf
      have hbt9:b9=true:=hd 9 (by simp)
      subst hbt9
      have hbt7:b7=true:=hd 7 (by simp)
      subst hbt7
      have hbt0:b0=true:=hd 0 (by simp)
      subst hbt0
      have hbt1:b1=true:=hd 1 (by simp)
      subst hbt1
      have hbt2:b2=true:=hd 2 (by simp)
      subst hbt2
      have hbt3:b3=true:=hd 3 (by simp)
      subst hbt3
      have hbt4:b4=true:=hd 4 (by simp)
      subst hbt4
      have hbt5:b5=true:=hd 5 (by simp)
      subst hbt5
      have hbt6:b6=true:=hd 6 (by simp)
      subst hbt6
      simp only [cond_true,cond_false]
      obtain ⟨g7,cap7,e7,_⟩:=hW.s2 rfl
      subst e7
      have hG:=hW.g rfl
      refine l_store O (by simp) rfl (by rfl) (p:=⟨gm.gb,0,none⟩) (x:=rv) (y:=.slice (some ⟨g7,0,none⟩) (xs.length + 1) cap7) hG.at0 (hG.frozen 0) (.inr (by simp [sitG])) (noShun0 gm) (fun g _ _ hS=>?_) (fun w h=>Gm.K_set hW.MW.wf _ _ rfl h) (fun g c h=>?_) (fun w₁ hc₁ hf₁=>⟨?_,?_⟩) ?_
      · obtain ⟨_,p,hp,h⟩:=hS
        injection h with h;injection h with h1 h2
        exact (hW.MW.wf.blk _ (Gm.at hp)).1 h1.symm
      · obtain ⟨_,p,hp,rfl,_⟩:=Gm.R0_seat h
        exact (hW.MW.wf.blk _ (Gm.at hp)).2.1
      · go_simp
      · simp [listed,go_sem,hc₁,hf₁]
        rw [events_store Try.prog w₁ #[] _ (.slice (some ⟨g7,0,none⟩) (xs.length + 1) cap7) .plain rfl]
        simp only [hc₁,hf₁]
        exact seen_cell hq _ _ _
      exact hn _ _ _ ⟨true,true,true,true,true,true,true,true,b8,true,true,_,_,rfl,rfl,rfl,⟨fun _=>rfl,fun _=>rfl,fun _=>rfl⟩,hW.stored⟩
end
end Go.Proofs.Ytndppafplgilbaa
