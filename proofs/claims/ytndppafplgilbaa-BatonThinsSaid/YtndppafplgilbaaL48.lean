/-
  larchlaw04.BatonThins returns true for every input. No condition. (Part 48 of 49; joined by program.)
-/
import Derived.Test.YtndppafplgilbaaL47
import Derived.Test.YtndppafplgilbaaL16
import Derived.Test.YtndppafplgilbaaL45
set_option linter.unusedVariables false
set_option linter.unusedSimpArgs false
set_option linter.unusedSectionVars false
set_option maxRecDepth 100000
namespace Go.Proofs.Ytndppafplgilbaa
open Go Go.Conc Go.RowKit
open Go.ConcN (sumTo upd sumTo_upd upd_ne upd_same)
theorem thins_last (sa:Option Addr) (sc k p1 p3 m n B:Nat) (l:List Nat) (q:PQ) (c1:Array Value) (st1:List Stp) (stv ev pv anv fv:Value) (v:World) (hsc1:(sa=none∧st1.length=0∧sc=0)∨∃ g,sa=some ⟨g,0,none⟩∧st1.length≤sc)
    (h1:v.heap[p1]?=some (.cells c1 38 (0,0))) (hg1:c1[0]?=some (.slice sa st1.length sc)) (hs:StepsIn v sa st1) (h3:v.heap[p3]?=some (.cells #[stv,ev,pv,anv,fv] 38 (0,0))) (P:PRow B l m n q (st1.take k) stv ev pv anv fv v) (hk:k≤st1.length) (h6:st1.length≤1000000) :
    ∀ y0 y2 y3 y4 y5 y8 y9 y11 y12 y13 y14 y15 y16 y17 y18 y19 y20 y21 y22 y23 y24 y25 y26 y27 y28 y29 y30 y31 y32 y33 y34 y35 y36 y37 y38 y39 y40 y41 y42 y43 y44 y45 y46 y47 y48 y49 y50 y51 y52 y53 y54 y55 y56 y57 y58 y59 y60 y61 y62 y63 y64 y65 y66 y67 y68 y69 y70 y71 y72 y73 y74 y75 y76 y77 y78 y79 y80 y81 y82 y83 y84 y85 y86 y87 y88 y89 y90 y91 y92 y93 y94 y95 y96 y97 y98 y99 y100 y101 y102 y103 y104 y105 y106 y107 y108 y109 y110 y111 y112 y113 y114 y115 y116 y117 y118 y119 y120 y121 y122 y123 y124 y125 y126 y127 y128 y129 y130 y131 y132:Value,thinsB15.wp Try.prog (fun e a u=>e=.ret∧a.defers=[]∧a.tmps.getD 4 undef=.bool true∧Below v.heap.size v u) ⟨#[y0,.int .i64 (k:Int),y2,y3,y4,y5,.pointer (some ⟨p1,0,none⟩),.int .i64 0,y8,y9,.pointer (some ⟨p3,0,none⟩),y11,y12,y13,y14,y15,y16,y17,y18,y19,y20,y21,y22,y23,y24,y25,y26,y27,y28,y29,y30,y31,y32,y33,y34,y35,y36,y37,y38,y39,y40,y41,y42,y43,y44,y45,y46,y47,y48,y49,y50,y51,y52,y53,y54,y55,y56,y57,y58,y59,y60,y61,y62,y63,y64,y65,y66,y67,y68,y69,y70,y71,y72,y73,y74,y75,y76,y77,y78,y79,y80,y81,y82,y83,y84,y85,y86,y87,y88,y89,y90,y91,y92,y93,y94,y95,y96,y97,y98,y99,y100,y101,y102,y103,y104,y105,y106,y107,y108,y109,y110,y111,y112,y113,y114,y115,y116,y117,y118,y119,y120,y121,y122,y123,y124,y125,y126,y127,y128,y129,y130,y131,y132],[]⟩ v:=by
  intro y0 y2 y3 y4 y5 y8 y9 y11 y12 y13 y14 y15 y16 y17 y18 y19 y20 y21 y22 y23 y24 y25 y26 y27 y28 y29 y30 y31 y32 y33 y34 y35 y36 y37 y38 y39 y40 y41 y42 y43 y44 y45 y46 y47 y48 y49 y50 y51 y52 y53 y54 y55 y56 y57 y58 y59 y60 y61 y62 y63 y64 y65 y66 y67 y68 y69 y70 y71 y72 y73 y74 y75 y76 y77 y78 y79 y80 y81 y82 y83 y84 y85 y86 y87 y88 y89 y90 y91 y92 y93 y94 y95 y96 y97 y98 y99 y100 y101 y102 y103 y104 y105 y106 y107 y108 y109 y110 y111 y112 y113 y114 y115 y116 y117 y118 y119 y120 y121 y122 y123 y124 y125 y126 y127 y128 y129 y130 y131 y132
  obtain ⟨sa3,sc3,e3,_,i3,_⟩:=ownsRow_steps P.st
  have hl:(st1.take k).length=k:=by rw [List.length_take];omega
  rw [hl] at e3
  rcases hsc1 with ⟨rfl,h0,rfl⟩ | ⟨g,rfl,hc⟩
  · have hk0:k=0:=by omega
    subst hk0
    rw [h0] at hg1
    exact thins_endN sa3 sc3 p1 p3 c1 _ v h1 hg1 h3 (by rw [← e3];rfl) _ _ _ _ _ _ _ _ _ _ _ _ _ _ _ _ _ _ _ _ _ _ _ _ _ _ _ _ _ _ _ _ _ _ _ _ _ _ _ _ _ _ _ _ _ _ _ _ _ _ _ _ _ _ _ _ _ _ _ _ _ _ _ _ _ _ _ _ _ _ _ _ _ _ _ _ _ _ _ _ _ _ _ _ _ _ _ _ _ _ _ _ _ _ _ _ _ _ _ _ _ _ _ _ _ _ _ _ _ _ _ _ _ _ _ _ _ _ _ _ _ _ _ _ _ _ _ _ _
  · exact thins_endS sa3 k sc3 p1 p3 g sc c1 _ st1 v hk h6 hc h1 hg1 h3 (by rw [← e3];rfl) hs i3 _ _ _ _ _ _ _ _ _ _ _ _ _ _ _ _ _ _ _ _ _ _ _ _ _ _ _ _ _ _ _ _ _ _ _ _ _ _ _ _ _ _ _ _ _ _ _ _ _ _ _ _ _ _ _ _ _ _ _ _ _ _ _ _ _ _ _ _ _ _ _ _ _ _ _ _ _ _ _ _ _ _ _ _ _ _ _ _ _ _ _ _ _ _ _ _ _ _ _ _ _ _ _ _ _ _ _ _ _ _ _ _ _ _ _ _ _ _ _ _ _ _ _ _ _ _ _ _ _
noncomputable def thinsB14:Code:=(seqR (seqR (seqR (seqR (seqR (seqR (seqR (seqR (seqR (seqR (Try.f5.body.getD .skip)))))))))))
set_option maxHeartbeats 32000000 in
theorem thins_c {W w:World} {l:List Nat} {gb n0 cB p1 cc scap pc k sc:Nat} {ca so po sa:Option Addr} {ao:Nat→Option Addr} {acap:Nat→Nat} {cells:List Int} {ss:List (List A4)} {pk:List Int} {st1:List Stp} {sov:Value} {c1:Array Value}
    (A:LawAt W l gb w) (pos:0 < n0) (hcB:w.heap[cB]?=some (.cells #[.slice ca cells.length cc,sov,.slice po pk.length pc] 25 (0,0))) (hcn:cB ∉ l) (hk:k≤pk.length) (hpc:pk.length≤pc) (he:playErr cells ss pk=0)
    (hci:IntsIn w ca cells) (hciF:∀ b off,ca=some ⟨b,off,none⟩→cells≠[]→b ∉ l) (hsc:ScriptsIn w so ao acap ss) (hsF:∀ x,ScrBlk so ao ss x→x ∉ l∧x < w.heap.size) (hpi:IntsIn w po pk) (hpF:∀ b off,po=some ⟨b,off,none⟩→pk≠[]→b ∉ l∧¬ ScrBlk so ao ss b)
    (hst:st1=((PQ.start cells ss).runs ss.length pk).2) (hb1:w.heap[p1]?=some (.cells c1 38 (0,0))) (hg1:c1[0]?=some (.slice sa st1.length sc)) (hp1:p1 ∉ l) (hsi:StepsIn w sa st1) (hsF1:∀ b off,sa=some ⟨b,off,none⟩→st1≠[]→b ∉ l) (hsc1:(sa=none∧st1.length=0∧sc=0)∨∃ g,sa=some ⟨g,0,none⟩∧st1.length≤sc) :
    ∀ y0 y3 y4 y7 y8 y9 y10 y11 y12 y13 y14 y15 y16 y17 y18 y19 y20 y21 y22 y23 y24 y25 y26 y27 y28 y29 y30 y31 y32 y33 y34 y35 y36 y37 y38 y39 y40 y41 y42 y43 y44 y45 y46 y47 y48 y49 y50 y51 y52 y53 y54 y55 y56 y57 y58 y59 y60 y61 y62 y63 y64 y65 y66 y67 y68 y69 y70 y71 y72 y73 y74 y75 y76 y77 y78 y79 y80 y81 y82 y83 y84 y85 y86 y87 y88 y89 y90 y91 y92 y93 y94 y95 y96 y97 y98 y99 y100 y101 y102 y103 y104 y105 y106 y107 y108 y109 y110 y111 y112 y113 y114 y115 y116 y117 y118 y119 y120 y121 y122 y123 y124 y125 y126 y127 y128 y129 y130 y131 y132:Value,LM Try.prog (LawPost W) (sitI l (c0 gb 1) n0) (G ((bk 5 .normal).at ⟨#[y0,.int .i64 (k:Int),.pointer (some (c0 cB 0)),y3,y4,.slice so ss.length scap,.pointer (some (c0 p1 0)),y7,y8,y9,y10,y11,y12,y13,y14,y15,y16,y17,y18,y19,y20,y21,y22,y23,y24,y25,y26,y27,y28,y29,y30,y31,y32,y33,y34,y35,y36,y37,y38,y39,y40,y41,y42,y43,y44,y45,y46,y47,y48,y49,y50,y51,y52,y53,y54,y55,y56,y57,y58,y59,y60,y61,y62,y63,y64,y65,y66,y67,y68,y69,y70,y71,y72,y73,y74,y75,y76,y77,y78,y79,y80,y81,y82,y83,y84,y85,y86,y87,y88,y89,y90,y91,y92,y93,y94,y95,y96,y97,y98,y99,y100,y101,y102,y103,y104,y105,y106,y107,y108,y109,y110,y111,y112,y113,y114,y115,y116,y117,y118,y119,y120,y121,y122,y123,y124,y125,y126,y127,y128,y129,y130,y131,y132],[]⟩ [.code thinsB14]) []) w:=by
  intro y0 y3 y4 y7 y8 y9 y10 y11 y12 y13 y14 y15 y16 y17 y18 y19 y20 y21 y22 y23 y24 y25 y26 y27 y28 y29 y30 y31 y32 y33 y34 y35 y36 y37 y38 y39 y40 y41 y42 y43 y44 y45 y46 y47 y48 y49 y50 y51 y52 y53 y54 y55 y56 y57 y58 y59 y60 y61 y62 y63 y64 y65 y66 y67 y68 y69 y70 y71 y72 y73 y74 y75 y76 y77 y78 y79 y80 y81 y82 y83 y84 y85 y86 y87 y88 y89 y90 y91 y92 y93 y94 y95 y96 y97 y98 y99 y100 y101 y102 y103 y104 y105 y106 y107 y108 y109 y110 y111 y112 y113 y114 y115 y116 y117 y118 y119 y120 y121 y122 y123 y124 y125 y126 y127 y128 y129 y130 y131 y132
  have O:=ownM Try.prog (LawPost W)
  have T:=O.toCtl
  have hq:(Try.prog.funcs[5]?).any (·.norace)=false:=by rw [Try.func5];rfl
  obtain ⟨ea1,ea2,ea3,ea4,ea5,ea6⟩:=playErr_zero he
  have hcl:=(Array.getElem?_eq_some_iff.1 hcB).1
  have hkc:k≤pc:=by omega
  have htk:((PQ.start cells ss).runs ss.length (pk.take k)).2=st1.take k:=by rw [hst];exact PQ.runs_take _ _ _ _
  have hls:st1.length=pk.length:=by rw [hst];exact PQ.runs_len _ _ _
  have P1:=True.intro
  simp only [thinsB14,seqR,Option.getD_some,Try.f5]
  refine l_seq T ?_
  refine l_draw2 O rfl [[],[0],[],[],[3],[],[4,5],[1,2,6],[7],[8],[8],[],[11,9,7,0,1,2,3,4,5,6,8],[10,12,0,1,2,3,4,5,6,7,8,9,11]] (by kernel_rfl) (fun listed s' a w'=>∃ (b0 b1 b2 b3 b4 b5 b6 b7 b8 b9 b10 b11 b12 b13:Bool) (p:Nat) (gb4:Nat) (stv4:Value) (ev4:Value) (pv4:Value) (anv4:Value) (fv4:Value),listed=#[b0,b1,b2,b3,b4,b5,b6,b7,b8,b9,b10,b11,b12,b13]∧s'=sitI (bif b7 then gb4 :: l else l) (c0 (bif b7 then gb4 else gb) 1) (bif b7 then n0 + ss.length else n0)∧a=⟨#[y0,.int .i64 (k:Int),.pointer (some (c0 cB 0)),y3,y4,.slice so ss.length scap,.pointer (some (c0 p1 0)),(bif b13 then .int .i64 0 else y7),y8,y9,(bif b11 then .pointer (some (c0 p 0)) else y10),y11,y12,y13,y14,y15,y16,y17,y18,y19,y20,y21,y22,y23,y24,y25,y26,y27,y28,y29,y30,y31,y32,y33,y34,y35,y36,y37,y38,y39,y40,y41,y42,y43,y44,y45,y46,y47,y48,y49,y50,y51,y52,y53,y54,y55,y56,y57,y58,y59,y60,y61,y62,y63,y64,y65,y66,y67,y68,y69,y70,y71,y72,y73,y74,y75,y76,y77,y78,y79,y80,y81,y82,y83,y84,y85,y86,y87,y88,y89,y90,y91,y92,y93,y94,y95,y96,y97,y98,y99,y100,y101,y102,y103,y104,y105,y106,y107,y108,(bif b8 then .tuple #[.agg #[stv4,ev4,pv4,anv4,fv4],.int .i64 0] else y109),(bif b0 then .pointer (some ⟨cB,0,none⟩) else y110),(bif b1 then .slice ca cells.length cc else y111),(bif b2 then .slice so ss.length scap else y112),(bif b3 then .pointer (some ⟨cB,2,none⟩) else y113),(bif b4 then .slice po pk.length pc else y114),(bif b5 then .int .i64 (k:Int) else y115),(bif b6 then .slice po k pc else y116),(bif b7 then .tuple #[.agg #[stv4,ev4,pv4,anv4,fv4],.int .i64 0] else y117),(bif b9 then .agg #[stv4,ev4,pv4,anv4,fv4] else y118),(bif b10 then .int .i64 0 else y119),y120,y121,y122,y123,y124,y125,y126,y127,y128,y129,y130,y131,y132],[]⟩∧((b8=true→b7=true)∧(b9=true→b8=true)∧(b10=true→b8=true)∧(b12=true→b11=true∧b9=true))∧PlMid W w l gb cells.length ss.length ((PQ.start cells ss).runs ss.length (pk.take k)).1 (st1.take k) b7 b11 b12 p gb4 stv4 ev4 pv4 anv4 fv4 w') ?init ?fin ?step
  case init=>exact ⟨false,false,false,false,false,false,false,false,false,false,false,false,false,false,0,0,.int .i64 0,.int .i64 0,.int .i64 0,.int .i64 0,.int .i64 0,rfl,rfl,rfl,⟨fun h=>(by cases h),fun h=>(by cases h),fun h=>(by cases h),fun h=>(by cases h)⟩,PlMid.init A⟩
  case fin =>
    rintro s' a w' ⟨b0,b1,b2,b3,b4,b5,b6,b7,b8,b9,b10,b11,b12,b13,p,gb4,stv4,ev4,pv4,anv4,fv4,hl,rfl,rfl,hc,hM⟩
    have hl':(#[true,true,true,true,true,true,true,true,true,true,true,true,true,true]:Array Bool)=#[b0,b1,b2,b3,b4,b5,b6,b7,b8,b9,b10,b11,b12,b13]:=hl
    simp only [Array.mk.injEq,List.cons.injEq,and_true] at hl'
    obtain ⟨rfl,rfl,rfl,rfl,rfl,rfl,rfl,rfl,rfl,rfl,rfl,rfl,rfl,rfl⟩:=hl'
    simp only [cond_true,cond_false]
    have A9:LawAt W (gb4 :: l) gb4 w':=hM.at_
    have P9:PRow w.heap.size (p :: gb4 :: l) cells.length ss.length _ (st1.take k) stv4 ev4 pv4 anv4 fv4 w':=hM.rows rfl
    obtain ⟨u1,u2,u3,u4⟩:=hM.box rfl
    have u3':p ∉ gb4 :: l:=u3
    have hfr1:p1 ∉ gb4 :: l:=hM.free (Array.getElem?_eq_some_iff.1 hb1).1 hp1
    have hb1':=(hM.kept p1 (Array.getElem?_eq_some_iff.1 hb1).1 hp1).trans hb1
    have hsi':StepsIn w' sa st1:=hsi.at' fun b off e hl=>hM.kept b (hsi.lt hl e) (hsF1 b off e hl)
    have hsF':∀ b off,sa=some ⟨b,off,none⟩→st1≠[]→b ∉ gb4 :: l:=fun b off e hl=>hM.free (hsi.lt hl e) (hsF1 b off e hl)
    have hbW:=hM.base
    have key:=fun v (M:Masked (fun x=>x∈gb4 :: l) 0 v w')=>thins_last sa sc k p1 p _ _ _ _ _ c1 st1 _ _ _ _ _ v hsc1 (M.seen hfr1 hb1') hg1 (M.stepsIn hsi' hsF') (M.seen u3' u4) (P9.masked (fun x hx=>List.mem_cons_of_mem _ hx) M) (by omega) (by omega)
    simp only [thinsB15,seqR,Option.getD_some,Try.f5] at key
    refine law_last (by kernel_rfl) Try.func5 (by kernel_rfl) (slots_nil rfl _) A9 (fun v M=>Code.wp_mono (fun e a u hq=>⟨hq.1,hq.2.1,?_,hq.2.2.2.mono (by rw [M.size];exact A9.size)⟩) (key v M _ _ _ _ _ _ _ _ _ _ _ _ _ _ _ _ _ _ _ _ _ _ _ _ _ _ _ _ _ _ _ _ _ _ _ _ _ _ _ _ _ _ _ _ _ _ _ _ _ _ _ _ _ _ _ _ _ _ _ _ _ _ _ _ _ _ _ _ _ _ _ _ _ _ _ _ _ _ _ _ _ _ _ _ _ _ _ _ _ _ _ _ _ _ _ _ _ _ _ _ _ _ _ _ _ _ _ _ _ _ _ _ _ _ _ _ _ _ _ _ _ _ _ _ _ _ _ _ _))
    have hr:=resultsC_tmp (P:=Try.prog) (fn:=Try.f5) (t:=4) rfl a.tmps
    rw [hq.2.2.1] at hr
    exact hr
  case step =>
    rintro listed s' a w' i rest ⟨b0,b1,b2,b3,b4,b5,b6,b7,b8,b9,b10,b11,b12,b13,p,gb4,stv4,ev4,pv4,anv4,fv4,hl,rfl,rfl,hc,hM⟩ hi hf hd hrs hn
    subst hl
    have hi':i < 14:=hi
    have:i=0∨i=1∨i=2∨i=3∨i=4∨i=5∨i=6∨i=7∨i=8∨i=9∨i=10∨i=11∨i=12∨i=13:=by omega
    rcases this with rfl | rfl | rfl | rfl | rfl | rfl | rfl | rfl | rfl | rfl | rfl | rfl | rfl | rfl
    · have hbf:b0=false:=hf
      subst hbf
      simp only [cond_true,cond_false]
      refine l_val T (v:=.pointer (some ⟨cB,0,none⟩)) (by simp) rfl (by rfl) (fun w=>by go_simp) (fun w=>by simp [go_sem]) ?_
      exact hn _ _ _ ⟨true,b1,b2,b3,b4,b5,b6,b7,b8,b9,b10,b11,b12,b13,p,gb4,stv4,ev4,pv4,anv4,fv4,rfl,rfl,rfl,⟨by first | exact fun _=>rfl | exact hc.1,by first | exact fun _=>rfl | exact hc.2.1,by first | exact fun _=>rfl | exact hc.2.2.1,by first | exact hc.2.2.2 | exact fun h=>⟨(hc.2.2.2 h).1,rfl⟩ | exact fun h=>⟨rfl,(hc.2.2.2 h).2⟩⟩,hM⟩
    · have hbf:b1=false:=hf
      subst hbf
      have hbt0:b0=true:=hd 0 (by simp)
      subst hbt0
      simp only [cond_true,cond_false]
      have hx:w'.cell? ⟨cB,0,none⟩=some (.slice ca cells.length cc):=cell_of_heap ((hM.kept cB hcl hcn).trans hcB) rfl
      have hfr:=hM.free hcl hcn
      have hh:=hidesI (l:=bif b7 then gb4 :: l else l) (st:=c0 (bif b7 then gb4 else gb) 1) (n:=bif b7 then n0 + ss.length else n0) hM.at_.hst
      refine l_loadH O hh (by simp) rfl (by rfl) hx hfr (fun w₁ hc₁=>⟨by go_simp,by simp [listed,go_sem,hc₁];exact seen_cell hq _ _ _⟩) ?_
      exact hn _ _ _ ⟨true,true,b2,b3,b4,b5,b6,b7,b8,b9,b10,b11,b12,b13,p,gb4,stv4,ev4,pv4,anv4,fv4,rfl,rfl,rfl,⟨by first | exact fun _=>rfl | exact hc.1,by first | exact fun _=>rfl | exact hc.2.1,by first | exact fun _=>rfl | exact hc.2.2.1,by first | exact hc.2.2.2 | exact fun h=>⟨(hc.2.2.2 h).1,rfl⟩ | exact fun h=>⟨rfl,(hc.2.2.2 h).2⟩⟩,hM⟩
    · have hbf:b2=false:=hf
      subst hbf
      simp only [cond_true,cond_false]
      refine l_val T (v:=.slice so ss.length scap) (by simp) rfl (by rfl) (fun w=>by go_simp) (fun w=>by simp [go_sem]) ?_
      exact hn _ _ _ ⟨b0,b1,true,b3,b4,b5,b6,b7,b8,b9,b10,b11,b12,b13,p,gb4,stv4,ev4,pv4,anv4,fv4,rfl,rfl,rfl,⟨by first | exact fun _=>rfl | exact hc.1,by first | exact fun _=>rfl | exact hc.2.1,by first | exact fun _=>rfl | exact hc.2.2.1,by first | exact hc.2.2.2 | exact fun h=>⟨(hc.2.2.2 h).1,rfl⟩ | exact fun h=>⟨rfl,(hc.2.2.2 h).2⟩⟩,hM⟩
    · have hbf:b3=false:=hf
      subst hbf
      simp only [cond_true,cond_false]
      refine l_val T (v:=.pointer (some ⟨cB,2,none⟩)) (by simp) rfl (by rfl) (fun w=>by go_simp) (fun w=>by simp [go_sem]) ?_
      exact hn _ _ _ ⟨b0,b1,b2,true,b4,b5,b6,b7,b8,b9,b10,b11,b12,b13,p,gb4,stv4,ev4,pv4,anv4,fv4,rfl,rfl,rfl,⟨by first | exact fun _=>rfl | exact hc.1,by first | exact fun _=>rfl | exact hc.2.1,by first | exact fun _=>rfl | exact hc.2.2.1,by first | exact hc.2.2.2 | exact fun h=>⟨(hc.2.2.2 h).1,rfl⟩ | exact fun h=>⟨rfl,(hc.2.2.2 h).2⟩⟩,hM⟩
    · have hbf:b4=false:=hf
      subst hbf
      have hbt3:b3=true:=hd 3 (by simp)
      subst hbt3
      simp only [cond_true,cond_false]
      have hx:w'.cell? ⟨cB,2,none⟩=some (.slice po pk.length pc):=cell_of_heap ((hM.kept cB hcl hcn).trans hcB) rfl
      have hfr:=hM.free hcl hcn
      have hh:=hidesI (l:=bif b7 then gb4 :: l else l) (st:=c0 (bif b7 then gb4 else gb) 1) (n:=bif b7 then n0 + ss.length else n0) hM.at_.hst
      refine l_loadH O hh (by simp) rfl (by rfl) hx hfr (fun w₁ hc₁=>⟨by go_simp,by simp [listed,go_sem,hc₁];exact seen_cell hq _ _ _⟩) ?_
      exact hn _ _ _ ⟨b0,b1,b2,true,true,b5,b6,b7,b8,b9,b10,b11,b12,b13,p,gb4,stv4,ev4,pv4,anv4,fv4,rfl,rfl,rfl,⟨by first | exact fun _=>rfl | exact hc.1,by first | exact fun _=>rfl | exact hc.2.1,by first | exact fun _=>rfl | exact hc.2.2.1,by first | exact hc.2.2.2 | exact fun h=>⟨(hc.2.2.2 h).1,rfl⟩ | exact fun h=>⟨rfl,(hc.2.2.2 h).2⟩⟩,hM⟩
    · have hbf:b5=false:=hf
      subst hbf
      simp only [cond_true,cond_false]
      refine l_val T (v:=.int .i64 (k:Int)) (by simp) rfl (by rfl) (fun w=>by go_simp) (fun w=>by simp [go_sem]) ?_
      exact hn _ _ _ ⟨b0,b1,b2,b3,b4,true,b6,b7,b8,b9,b10,b11,b12,b13,p,gb4,stv4,ev4,pv4,anv4,fv4,rfl,rfl,rfl,⟨by first | exact fun _=>rfl | exact hc.1,by first | exact fun _=>rfl | exact hc.2.1,by first | exact fun _=>rfl | exact hc.2.2.1,by first | exact hc.2.2.2 | exact fun h=>⟨(hc.2.2.2 h).1,rfl⟩ | exact fun h=>⟨rfl,(hc.2.2.2 h).2⟩⟩,hM⟩
    · have hbf:b6=false:=hf
      subst hbf
      have hbt4:b4=true:=hd 4 (by simp)
      subst hbt4
      have hbt5:b5=true:=hd 5 (by simp)
      subst hbt5
      simp only [cond_true,cond_false]
      refine l_val T (v:=.slice po k pc) (by simp) rfl (by rfl) (fun w=>run_sliceTo rfl rfl rfl hkc w) (fun w=>events_sliceTo rfl rfl rfl hkc w) ?_
      exact hn _ _ _ ⟨b0,b1,b2,b3,true,true,true,b7,b8,b9,b10,b11,b12,b13,p,gb4,stv4,ev4,pv4,anv4,fv4,rfl,rfl,rfl,⟨by first | exact fun _=>rfl | exact hc.1,by first | exact fun _=>rfl | exact hc.2.1,by first | exact fun _=>rfl | exact hc.2.2.1,by first | exact hc.2.2.2 | exact fun h=>⟨(hc.2.2.2 h).1,rfl⟩ | exact fun h=>⟨rfl,(hc.2.2.2 h).2⟩⟩,hM⟩
    · have hbf:b7=false:=hf
      subst hbf
      have hbt1:b1=true:=hd 1 (by simp)
      subst hbt1
      have hbt2:b2=true:=hd 2 (by simp)
      subst hbt2
      have hbt6:b6=true:=hd 6 (by simp)
      subst hbt6
      simp only [cond_true,cond_false]
      have h8:b8=false:=by
        cases b8 with
        | false=>rfl
        | true=>exact absurd (hc.1 rfl) (by simp)
      subst h8
      have h12:b12=false:=by
        cases b12 with
        | false=>rfl
        | true=>exact absurd (hc.2.1 (hc.2.2.2 rfl).2) (by simp)
      subst h12
      have h9:b9=false:=by
        cases b9 with
        | false=>rfl
        | true=>exact absurd (hc.2.1 rfl) (by simp)
      subst h9
      have h10:b10=false:=by
        cases b10 with
        | false=>rfl
        | true=>exact absurd (hc.2.2.1 rfl) (by simp)
      subst h10
      have A1:LawAt W l gb w':=hM.at_
      have kp:∀ g,g < w.heap.size→g ∉ l→w'.heap[g]?=w.heap[g]?:=hM.kept
      have hzz:=hM.size
      simp only [cond_false]
      (refine l_enter T (fn:=Try.f14) (c:=.skip) (g:=14) (xs:=#[.slice ca cells.length cc,.slice so ss.length scap,.slice po k pc]) (by simp) rfl (by rfl) (fun w=>?_) (fun w=>?_) ?_;(focus go_simp);(focus (simp [go_sem,events_into Try.func14 (by kernel_rfl) (by kernel_rfl)])))
      have hkl:(pk.take k).length=k:=by rw [List.length_take];omega
      rw [← hkl]
      refine play_calls (Post:=LawPost W) (cells:=cells) (ss:=ss) (ps:=pk.take k) (ao:=ao) (acap:=acap) A1.hst A1.hid (.inr A1.cnt) pos ea4 ea1 ea2 (by omega) ea5 ea6 (hci.at' fun b off e hl=>kp b (hci.lt hl e) (hciF b off e hl)) hciF (hsc.at' fun x hx hb=>kp x hx (hsF x hb).1) ⟨fun b off e hl=>(hsF b (.inl ⟨off,e⟩)).1,fun j hj b off e hl=>(hsF b (.inr ⟨j,hj,hl,off,e⟩)).1⟩ (numsAt_of ((hpi.at' fun b off e hl=>kp b (hpi.lt hl e) (hpF b off e hl).1).take k) fun b off e hl=>hpF b off e fun e2=>hl (by rw [e2];simp)) _ _ trivial (by simp [bk,Frame.at]) rfl (fun v s' w6 hP=>?_) (fun ch s' w' hP=>by obtain ⟨_,_,_,_,_,_,h,_⟩:=hP;cases h)
      obtain ⟨gb5,stv5,ev5,pv5,anv5,fv5,hv,rfl,D⟩:=hP
      cases hv
      rw [bk_finish rfl]
      have hM2:=hM.call (by rw [← htk];exact D) rfl
      rw [hkl]
      exact hn _ _ _ ⟨b0,true,true,b3,b4,b5,true,true,false,false,false,b11,false,b13,p,gb5,stv5,ev5,pv5,anv5,fv5,rfl,rfl,rfl,⟨fun h=>(by cases h),fun h=>(by cases h),fun h=>(by cases h),fun h=>(by cases h)⟩,hM2⟩
    · have hbf:b8=false:=hf
      subst hbf
      have hbt7:b7=true:=hd 7 (by simp)
      subst hbt7
      simp only [cond_true,cond_false]
      refine l_val T (v:=.tuple #[.agg #[stv4,ev4,pv4,anv4,fv4],.int .i64 0]) (by simp) rfl (by rfl) (fun w=>by go_simp) (fun w=>by simp [go_sem]) ?_
      exact hn _ _ _ ⟨b0,b1,b2,b3,b4,b5,b6,true,true,b9,b10,b11,b12,b13,p,gb4,stv4,ev4,pv4,anv4,fv4,rfl,rfl,rfl,⟨by first | exact fun _=>rfl | exact hc.1,by first | exact fun _=>rfl | exact hc.2.1,by first | exact fun _=>rfl | exact hc.2.2.1,by first | exact hc.2.2.2 | exact fun h=>⟨(hc.2.2.2 h).1,rfl⟩ | exact fun h=>⟨rfl,(hc.2.2.2 h).2⟩⟩,hM⟩
    · have hbf:b9=false:=hf
      subst hbf
      have hbt8:b8=true:=hd 8 (by simp)
      subst hbt8
      simp only [cond_true,cond_false]
      refine l_val T (v:=.agg #[stv4,ev4,pv4,anv4,fv4]) (by simp) rfl (by rfl) (fun w=>by go_simp) (fun w=>by simp [go_sem]) ?_
      exact hn _ _ _ ⟨b0,b1,b2,b3,b4,b5,b6,b7,true,true,b10,b11,b12,b13,p,gb4,stv4,ev4,pv4,anv4,fv4,rfl,rfl,rfl,⟨by first | exact fun _=>rfl | exact hc.1,by first | exact fun _=>rfl | exact hc.2.1,by first | exact fun _=>rfl | exact hc.2.2.1,by first | exact hc.2.2.2 | exact fun h=>⟨(hc.2.2.2 h).1,rfl⟩ | exact fun h=>⟨rfl,(hc.2.2.2 h).2⟩⟩,hM⟩
    · have hbf:b10=false:=hf
      subst hbf
      have hbt8:b8=true:=hd 8 (by simp)
      subst hbt8
      simp only [cond_true,cond_false]
      refine l_val T (v:=.int .i64 0) (by simp) rfl (by rfl) (fun w=>by go_simp) (fun w=>by simp [go_sem]) ?_
      exact hn _ _ _ ⟨b0,b1,b2,b3,b4,b5,b6,b7,true,b9,true,b11,b12,b13,p,gb4,stv4,ev4,pv4,anv4,fv4,rfl,rfl,rfl,⟨by first | exact fun _=>rfl | exact hc.1,by first | exact fun _=>rfl | exact hc.2.1,by first | exact fun _=>rfl | exact hc.2.2.1,by first | exact hc.2.2.2 | exact fun h=>⟨(hc.2.2.2 h).1,rfl⟩ | exact fun h=>⟨rfl,(hc.2.2.2 h).2⟩⟩,hM⟩
    · have hbf:b11=false:=hf
      subst hbf
      simp only [cond_true,cond_false]
      have h12:b12=false:=by
        cases b12 with
        | false=>rfl
        | true=>exact absurd (hc.2.2.2 rfl).1 (by simp)
      subst h12
      have hh:=hidesI (l:=bif b7 then gb4 :: l else l) (st:=c0 (bif b7 then gb4 else gb) 1) (n:=bif b7 then n0 + ss.length else n0) hM.at_.hst
      refine l_new O hh (by simp) hM.at_.hid rfl (by rfl) (by kernel_rfl) (fun n=>.pointer (some (c0 n 0))) (c:=zeroPlayed) (t:=38) (fun v=>by clear hM hcB hci hpi hsc P1 hb1 hsi;go_simp) (fun w7 hp7 G7 hl7=>?_)
      have hM2:=hM.alloc G7 hp7
      exact hn _ _ _ ⟨b0,b1,b2,b3,b4,b5,b6,b7,b8,b9,b10,true,false,b13,w'.heap.size,gb4,stv4,ev4,pv4,anv4,fv4,rfl,rfl,rfl,⟨hc.1,hc.2.1,hc.2.2.1,fun h=>(by cases h)⟩,hM2⟩
    · have hbf:b12=false:=hf
      subst hbf
      have hbt11:b11=true:=hd 11 (by simp)
      subst hbt11
      have hbt9:b9=true:=hd 9 (by simp)
      subst hbt9
      have hbt7:b7=true:=hd 7 (by simp)
      subst hbt7
      have hbt0:b0=true:=hd 0 (by simp)
      subst hbt0
      have hbt1:b1=true:=hd 1 (by simp)
      subst hbt1
      have hbt2:b2=true:=hd 2 (by simp)
      subst hbt2
      have hbt3:b3=true:=hd 3 (by simp)
      subst hbt3
      have hbt4:b4=true:=hd 4 (by simp)
      subst hbt4
      have hbt5:b5=true:=hd 5 (by simp)
      subst hbt5
      have hbt6:b6=true:=hd 6 (by simp)
      subst hbt6
      have hbt8:b8=true:=hd 8 (by simp)
      subst hbt8
      simp only [cond_true,cond_false]
      have hh:=hidesI (l:=gb4 :: l) (st:=c0 gb4 1) (n:=n0 + ss.length) (fun _=>List.mem_cons_self ..)
      obtain ⟨u1,u2,u3,u4⟩:=hM.box rfl
      have hi5:(Try.prog.info? 38).map (·.size)=some 5:=by kernel_rfl
      have hone:(#[stv4,ev4,pv4,anv4,fv4]:Array Value).all (·.oneCell')=true:=by
        have P6:=hM.rows rfl
        obtain ⟨_,_,e,_⟩:=P6.an
        have e0:∀ a b c,(Value.slice a b c).oneCell'=true:=(fun _ _ _=>rfl)
        subst e
        simp [ownsRow_one P6.st,ownsRow_one P6.en,ownsRow_one P6.pa,ownsRow_one P6.fi,e0]
      refine l_storeRow O hh (cells:=#[stv4,ev4,pv4,anv4,fv4]) (by simp) hM.at_.hid rfl (by rfl) rfl (by simp [Act.eval]) (by simp [Act.eval]) u4 u3 hi5 (by rfl) hone (fun w8 hp8 G8 hs8=>?_)
      have hM2:=hM.store G8 hp8
      exact hn _ _ _ ⟨true,true,true,true,true,true,true,true,true,true,b10,true,true,b13,p,gb4,stv4,ev4,pv4,anv4,fv4,rfl,rfl,rfl,⟨fun _=>rfl,fun _=>rfl,hc.2.2.1,fun _=>⟨rfl,rfl⟩⟩,hM2⟩
    · have hbf:b13=false:=hf
      subst hbf
      have hbt10:b10=true:=hd 10 (by simp)
      subst hbt10
      have hbt12:b12=true:=hd 12 (by simp)
      subst hbt12
      have hbt0:b0=true:=hd 0 (by simp)
      subst hbt0
      have hbt1:b1=true:=hd 1 (by simp)
      subst hbt1
      have hbt2:b2=true:=hd 2 (by simp)
      subst hbt2
      have hbt3:b3=true:=hd 3 (by simp)
      subst hbt3
      have hbt4:b4=true:=hd 4 (by simp)
      subst hbt4
      have hbt5:b5=true:=hd 5 (by simp)
      subst hbt5
      have hbt6:b6=true:=hd 6 (by simp)
      subst hbt6
      have hbt7:b7=true:=hd 7 (by simp)
      subst hbt7
      have hbt8:b8=true:=hd 8 (by simp)
      subst hbt8
      have hbt9:b9=true:=hd 9 (by simp)
      subst hbt9
      have hbt11:b11=true:=hd 11 (by simp)
      subst hbt11
      simp only [cond_true,cond_false]
      refine l_val T (v:=.int .i64 0) (by simp) rfl (by rfl) (fun w=>by go_simp) (fun w=>by simp [go_sem]) ?_
      exact hn _ _ _ ⟨true,true,true,true,true,true,true,true,true,true,true,true,true,true,p,gb4,stv4,ev4,pv4,anv4,fv4,rfl,rfl,rfl,⟨by first | exact fun _=>rfl | exact hc.1,by first | exact fun _=>rfl | exact hc.2.1,by first | exact fun _=>rfl | exact hc.2.2.1,by first | exact hc.2.2.2 | exact fun h=>⟨(hc.2.2.2 h).1,rfl⟩ | exact fun h=>⟨rfl,(hc.2.2.2 h).2⟩⟩,hM⟩
end Go.Proofs.Ytndppafplgilbaa
namespace Go.Proofs.Ytndppafplgilbaa
open Go Go.Conc Go.RowKit
open Go.ConcN (sumTo upd sumTo_upd upd_ne upd_same)
noncomputable def thinsB12:Code:=(seqR (seqR (seqR (seqR (seqR (seqR (seqR (seqR (seqR (Try.f5.body.getD .skip))))))))))
set_option maxHeartbeats 16000000 in
theorem thins_b {W w:World} {l:List Nat} {gb n0 cB p1 cc scap pc sc:Nat} {kz:Int} {ca so po sa:Option Addr} {ao:Nat→Option Addr} {acap:Nat→Nat} {cells:List Int} {ss:List (List A4)} {pk:List Int} {st1:List Stp} {sov v0 v3 v4 v7 v8 v9:Value} {c1:Array Value}
    (A:LawAt W l gb w) (pos:0 < n0) (hcB:w.heap[cB]?=some (.cells #[.slice ca cells.length cc,sov,.slice po pk.length pc] 25 (0,0))) (hcn:cB ∉ l) (hpc:pk.length≤pc) (he:playErr cells ss pk=0)
    (hci:IntsIn w ca cells) (hciF:∀ b off,ca=some ⟨b,off,none⟩→cells≠[]→b ∉ l) (hsc:ScriptsIn w so ao acap ss) (hsF:∀ x,ScrBlk so ao ss x→x ∉ l∧x < w.heap.size) (hpi:IntsIn w po pk) (hpF:∀ b off,po=some ⟨b,off,none⟩→pk≠[]→b ∉ l∧¬ ScrBlk so ao ss b)
    (hst:st1=((PQ.start cells ss).runs ss.length pk).2) (hb1:w.heap[p1]?=some (.cells c1 38 (0,0))) (hg1:c1[0]?=some (.slice sa st1.length sc)) (hp1:p1 ∉ l) (hsi:StepsIn w sa st1) (hsF1:∀ b off,sa=some ⟨b,off,none⟩→st1≠[]→b ∉ l) (hsc1:(sa=none∧st1.length=0∧sc=0)∨∃ g,sa=some ⟨g,0,none⟩∧st1.length≤sc) {ts:Array Value} (hts:∃ z10 z11 z12 z13 z14 z15 z16 z17 z18 z19 z20 z21 z22 z23 z24 z25 z26 z27 z28 z29 z30 z31 z32 z33 z34 z35 z36 z37 z38 z39 z40 z41 z42 z43 z44 z45 z46 z47 z48 z49 z50 z51 z52 z53 z54 z55 z56 z57 z58 z59 z60 z61 z62 z63 z64 z65 z66 z67 z68 z69 z70 z71 z72 z73 z74 z75 z76 z77 z78 z79 z80 z81 z82 z83 z84 z85 z86 z87 z88 z89 z90 z91 z92 z93 z94 z95 z96 z97 z98 z99 z100 z101 z102 z103 z104 z105 z106 z107 z108 z109 z110 z111 z112 z113 z114 z115 z116 z117 z118 z119 z120 z121 z122 z123 z124 z125 z126 z127 z128 z129 z130 z131 z132:Value,ts=#[v0,.int .i64 kz,.pointer (some (c0 cB 0)),v3,v4,.slice so ss.length scap,.pointer (some ⟨p1,0,none⟩),v7,v8,v9,z10,z11,z12,z13,z14,z15,z16,z17,z18,z19,z20,z21,z22,z23,z24,z25,z26,z27,z28,z29,z30,z31,z32,z33,z34,z35,z36,z37,z38,z39,z40,z41,z42,z43,z44,z45,z46,z47,z48,z49,z50,z51,z52,z53,z54,z55,z56,z57,z58,z59,z60,z61,z62,z63,z64,z65,z66,z67,z68,z69,z70,z71,z72,z73,z74,z75,z76,z77,z78,z79,z80,z81,z82,z83,z84,z85,z86,z87,z88,z89,z90,z91,z92,z93,z94,z95,z96,z97,z98,z99,z100,z101,z102,z103,z104,z105,z106,z107,z108,z109,z110,z111,z112,z113,z114,z115,z116,z117,z118,z119,z120,z121,z122,z123,z124,z125,z126,z127,z128,z129,z130,z131,z132]) :
    LM Try.prog (LawPost W) (sitI l (c0 gb 1) n0) (G ((bk 5 .normal).at ⟨ts,[]⟩ [.code thinsB12]) []) w:=by
  obtain ⟨z10,z11,z12,z13,z14,z15,z16,z17,z18,z19,z20,z21,z22,z23,z24,z25,z26,z27,z28,z29,z30,z31,z32,z33,z34,z35,z36,z37,z38,z39,z40,z41,z42,z43,z44,z45,z46,z47,z48,z49,z50,z51,z52,z53,z54,z55,z56,z57,z58,z59,z60,z61,z62,z63,z64,z65,z66,z67,z68,z69,z70,z71,z72,z73,z74,z75,z76,z77,z78,z79,z80,z81,z82,z83,z84,z85,z86,z87,z88,z89,z90,z91,z92,z93,z94,z95,z96,z97,z98,z99,z100,z101,z102,z103,z104,z105,z106,z107,z108,z109,z110,z111,z112,z113,z114,z115,z116,z117,z118,z119,z120,z121,z122,z123,z124,z125,z126,z127,z128,z129,z130,z131,z132,rfl⟩:=hts
  have O:=ownM Try.prog (LawPost W)
  have T:=O.toCtl
  have hq:(Try.prog.funcs[5]?).any (·.norace)=false:=by rw [Try.func5];rfl
  have hh:=hidesI (l:=l) (st:=c0 gb 1) (n:=n0) A.hst
  have keyC:=fun (k:Nat) (hk:k≤pk.length)=>thins_c (k:=k) A pos hcB hcn hk hpc he hci hciF hsc hsF hpi hpF hst hb1 hg1 hp1 hsi hsF1 hsc1 (scap:=scap)
  have hcp:w.cell? ⟨cB,2,none⟩=some (.slice po pk.length pc):=cell_of_heap hcB rfl
  have KC:=Lib.hid keyC
  have CP:=Lib.hid hcp
  clear keyC hcp hcB hpc he hci hciF hsc hsF hpi hpF hst hb1 hg1 hp1 hsi hsF1 hsc1
  simp only [thinsB12,seqR,Option.getD_some,Try.f5]
  by_cases k1:kz < 0
  · have e1:decide (kz < 0)=true:=by simp;omega
    refine laW ?_
    try simp only [e1]
    refine laW ?_
    (refine l_cond T true (by simp [Act.eval] <;> omega) ?_;simp only [if_true,if_false,Bool.false_eq_true,↓reduceIte])
    refine laW ?_
    exact law_retL (by kernel_rfl) Try.func5 (resultsC_tmp (P:=Try.prog) (fn:=Try.f5) (t:=4) rfl _) A
  · have e1:decide (kz < 0)=false:=by simp;omega
    obtain ⟨kk,rfl⟩:∃ kk:Nat,kz=(kk:Int):=⟨kz.toNat,by omega⟩
    refine laW ?_
    try simp only [e1]
    refine laW ?_
    (refine l_loadH O hh (by simp) rfl (by rfl) CP.out hcn (fun w₁ hc₁=>⟨by go_simp,by simp [listed,go_sem,hc₁];exact seen_cell hq _ _ _⟩) ?_;walk_nrm)
    refine laW ?_
    by_cases k2:pk.length < kk
    · have e2:decide ((pk.length:Int) < (kk:Int))=true:=by simp;omega
      have e2':decide ((kk:Int) > (pk.length:Int))=true:=by simp;omega
      have e2b:decide (pk.length < kk)=true:=by simp;omega
      try simp only [e2,e2',e2b]
      refine laW ?_
      (refine l_cond T true (by simp [Act.eval] <;> omega) ?_;simp only [if_true,if_false,Bool.false_eq_true,↓reduceIte])
      refine laW ?_
      exact law_retL (by kernel_rfl) Try.func5 (resultsC_tmp (P:=Try.prog) (fn:=Try.f5) (t:=4) rfl _) A
    · have e2:decide ((pk.length:Int) < (kk:Int))=false:=by simp;omega
      have e2':decide ((kk:Int) > (pk.length:Int))=false:=by simp;omega
      have e2b:decide (pk.length < kk)=false:=by simp;omega
      try simp only [e2,e2',e2b]
      refine laW ?_
      (refine l_cond T false (by simp [Act.eval] <;> omega) ?_;simp only [if_true,if_false,Bool.false_eq_true,↓reduceIte])
      refine l_skip T ?_
      have key:=KC.out kk (by omega)
      simp only [thinsB14,seqR,Option.getD_some,Try.f5] at key
      exact key _ _ _ _ _ _ _ _ _ _ _ _ _ _ _ _ _ _ _ _ _ _ _ _ _ _ _ _ _ _ _ _ _ _ _ _ _ _ _ _ _ _ _ _ _ _ _ _ _ _ _ _ _ _ _ _ _ _ _ _ _ _ _ _ _ _ _ _ _ _ _ _ _ _ _ _ _ _ _ _ _ _ _ _ _ _ _ _ _ _ _ _ _ _ _ _ _ _ _ _ _ _ _ _ _ _ _ _ _ _ _ _ _ _ _ _ _ _ _ _ _ _ _ _ _ _ _ _ _
end Go.Proofs.Ytndppafplgilbaa
