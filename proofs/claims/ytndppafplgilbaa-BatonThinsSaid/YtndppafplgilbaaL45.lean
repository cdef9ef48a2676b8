/-
  larchlaw04.BatonThins returns true for every input. No condition. (Part 45 of 49; joined by program.)
-/
import Derived.Test.YtndppafplgilbaaL44
import Derived.Test.YtndppafplgilbaaL35
import Derived.Test.YtndppafplgilbaaL34
import Derived.Test.YtndppafplgilbaaL28
set_option linter.unusedVariables false
set_option linter.unusedSimpArgs false
set_option linter.unusedSectionVars false
set_option maxRecDepth 100000
namespace Go.Proofs.Ytndppafplgilbaa
open Go Go.Conc Go.RowKit
open Go.ConcN (sumTo upd sumTo_upd upd_ne upd_same)
def playErr (cells:List Int) (ss:List (List A4)) (ps:List Int):Int :=
  if askedErr ss.length ps.length≠0 then askedErr ss.length ps.length else if 64 < cells.length∨allFew (ss.map (·.length))=false then 2 else scriptsErr cells.length ss
set_option maxHeartbeats 1000000 in
theorem checkErr_any (n m cap:Nat) (a:Option Addr) (w:World) :
    Calls Try.prog 46 #[.int .i64 n,.slice a m cap] w fun e w'=>e=.returned (.int .i64 (askedErr n m))∧w=w':=by
  unfold askedErr
  by_cases h1:n < 1
  · have h1':(n:Int) < 1:=by omega
    rw [if_pos (.inl h1)]
    go_enter Try.func46,Try.ntmps46
    go_wp2_with fail
    all_goals (go_ret;exact ⟨rfl,rfl⟩)
  · have h1':¬ (n:Int) < 1:=by omega
    by_cases h2:64 < n
    · have h2':(64:Int) < n:=by omega
      rw [if_pos (.inr h2)]
      go_enter Try.func46,Try.ntmps46
      go_wp2_with fail
      all_goals (go_ret;exact ⟨rfl,rfl⟩)
    · have h2':¬ (64:Int) < n:=by omega
      rw [if_neg (by omega)]
      by_cases h3:1000000 < m
      · have h3':(1000000:Int) < m:=by omega
        rw [if_pos h3]
        go_enter Try.func46,Try.ntmps46
        go_wp2_with fail
        all_goals (go_ret;exact ⟨rfl,rfl⟩)
      · have h3':¬ (1000000:Int) < m:=by omega
        rw [if_neg h3]
        go_enter Try.func46,Try.ntmps46
        go_wp2_with fail
        all_goals (go_ret;exact ⟨rfl,rfl⟩)
section
variable {Post:Value→World→Prop}
theorem checkErr_calls {Gh:Type} {sit:Gh→Sit} {h:Nat} {L:Gh→Goroutine→World→Prop} (O:OwnL Try.prog sit h L) {H:Nat→Prop} {s:Gh} {w:World} {Sk:List Frame→Prop} (hh:Hides (sit s) h H) (ok:HidOk H w) {n m cap:Nat} {a:Option Addr} :
    CallsL Try.prog L Sk 46 #[.int .i64 n,.slice a m cap] s w (fun r s' w'=>r=.inl (.int .i64 (askedErr n m))∧s'=s∧Grow (sit s).st H (fun _=>False) w w') :=
  callsL_alone O closedA hh (by kernel_rfl) Try.func46 rfl (slots_nil rfl _) ok (R:=fun v0 x v'=>x=.int .i64 (askedErr n m)∧v0=v') (fun v0 M=>by
    refine (checkErr_any n m cap a v0).mono ?_
    rintro e w' ⟨rfl,rfl⟩
    exact ⟨rfl,rfl⟩) fun v0 x v' w' M hR A=>by
    obtain ⟨rfl,rfl⟩:=hR
    exact ⟨rfl,rfl,A.grow M fun k h _=>rfl⟩
set_option maxRecDepth 100000 in
set_option maxHeartbeats 16000000 in
theorem playErr_calls {l:List Nat} {st:Addr} {n0 cc scap pcap:Nat} {ca so po:Option Addr} {ao:Nat→Option Addr} {acap:Nat→Nat} {cells:List Int} {ss:List (List A4)} {ps:List Int} {w:World} (hst:st.spot=none→st.block∈l) (ok:HidOk (fun k=>k∈l) w) (he:playErr cells ss ps≠0)
    (hi:IntsIn w ca cells) (hiF:∀ b off,ca=some ⟨b,off,none⟩→cells≠[]→b ∉ l) (hs:ScriptsIn w so ao acap ss) (hsF:ScrFree (fun k=>k∈l) so ao ss) :
    CallsL Try.prog (LM Try.prog Post) (fun _=>True) 14 #[.slice ca cells.length cc,.slice so ss.length scap,.slice po ps.length pcap] (sitI l st n0) w (fun r s' w'=>r=.inl (.tuple #[.agg zeroPlayed,.int .i64 (playErr cells ss ps)])∧s'=sitI l st n0∧Grow st (fun k=>k∈l) (fun _=>False) w w'):=by
  intro c cs _ hkd hcm h1 _
  have O:=ownM Try.prog Post
  have T:=O.toCtl
  have hq:(Try.prog.funcs[14]?).any (·.norace)=false:=by rw [Try.func14];rfl
  have hh:=hidesI (n:=n0) hst
  have hi5:(Try.prog.info? 38).map (·.size)=some zeroPlayed.size:=by kernel_rfl
  rw [enter_bk Try.func14 rfl]
  walk_nrmf Try.f14
  refine laW ?_
  refine l_new O hh (by simp) ok rfl (by rfl) (by kernel_rfl) (fun n=>.pointer (some (c0 n 0))) (c:=#[.slice so ss.length scap]) (t:=42) (fun v=>by go_simp) (fun w1 hsb1 G1 hl1=>?_)
  walk_nrm
  refine laW ?_
  refine l_new O hh (by simp) G1.ok rfl (by rfl) (by kernel_rfl) (fun n=>.pointer (some (c0 n 0))) (c:=zeroPlayed) (t:=38) (fun v=>by go_simp) (fun w2 hrz2 G2 hl2=>?_)
  walk_nrm
  have hsbH:w.heap.size ∉ l:=fun h=>by have:=ok.lt h;omega
  have hrzH:w1.heap.size ∉ l:=fun h=>by have:=G1.ok.lt h;omega
  have hsb2:w2.heap[w.heap.size]?=some (.cells #[.slice so ss.length scap] 42 (0,0)):=(G2.low _ hl1 hsbH id).trans hsb1
  have G02:Grow st (fun k=>k∈l) (fun _=>False) w w2:=G1.transN hst G2 (fun _ h=>h) (fun _ _ h=>h)
  have hcs2:w2.cell? ⟨w.heap.size,0,none⟩=some (.slice so ss.length scap):=cell_of_heap hsb2 rfl
  have z1:=G1.size
  refine laW ?_
  (refine l_loadH O hh (by simp) rfl (by rfl) hcs2 hsbH (fun w₁ hc₁=>⟨by go_simp,by simp [listed,go_sem,hc₁];exact seen_cell hq _ _ _⟩) ?_;walk_nrm)
  refine laW ?_
  (refine l_enter T (fn:=Try.f46) (c:=.skip) (g:=46) (xs:=#[.int .i64 ss.length,.slice po ps.length pcap]) (by simp) rfl (by rfl) (fun w=>?_) (fun w=>?_) ?_;(focus go_simp);(focus (simp [go_sem,events_into Try.func46 (by kernel_rfl) (by kernel_rfl)])))
  refine checkErr_calls O (Sk:=fun _=>True) hh G02.ok _ _ trivial (by simp [bk,Frame.at]) rfl (fun v s' w3 hP=>?_) (fun ch s' w' hP=>by cases hP.1)
  obtain ⟨hv,rfl,G3⟩:=hP
  cases hv
  rw [bk_finish rfl]
  have G03:Grow st (fun k=>k∈l) (fun _=>False) w w3:=G02.transN hst G3 (fun _ h=>h) (fun _ _ h=>h)
  have hrz3:w3.heap[w1.heap.size]?=some (.cells zeroPlayed 38 (0,0)):=(G3.low _ hl2 hrzH id).trans hrz2
  have hsb3:w3.heap[w.heap.size]?=some (.cells #[.slice so ss.length scap] 42 (0,0)):=(G3.low _ (Array.getElem?_eq_some_iff.1 hsb2).1 hsbH id).trans hsb2
  have hcs3:w3.cell? ⟨w.heap.size,0,none⟩=some (.slice so ss.length scap):=cell_of_heap hsb3 rfl
  by_cases ea:askedErr ss.length ps.length=0
  · rw [ea]
    walk_nrm
    refine laW ?_
    (refine l_cond T false (by simp [Act.eval] <;> omega) ?_;simp only [if_true,if_false,Bool.false_eq_true,↓reduceIte])
    have hpe:playErr cells ss ps=if 64 < cells.length∨allFew (ss.map (·.length))=false then 2 else scriptsErr cells.length ss:=by unfold playErr;rw [if_neg (by simp [ea])]
    have hn64:ss.length≤64:=by
      unfold askedErr at ea
      split at ea
      · cases ea
      · omega
    have hs3:=hs.kept hsF fun k h1 h2=>G03.low k h1 h2 id
    have hi3:=hi.keptH hiF fun k h1 h2=>G03.low k h1 h2 id
    by_cases em:64 < cells.length
    · rw [if_pos (.inl em)] at hpe
      refine laW ?_
      have em0:decide ((64:Int) < (cells.length:Int))=true:=by simp;omega
      have em':decide ((cells.length:Int) > 64)=true:=by simp;omega
      try simp only [em0,em']
      refine laW ?_
      (refine l_cond T true (by simp [Act.eval] <;> omega) ?_;simp only [if_true,if_false,Bool.false_eq_true,↓reduceIte])
      refine laW ?_
      refine l_storeRow O hh (cells:=zeroPlayed) (by simp) G03.ok rfl (by rfl) rfl (by simp [Act.eval]) (by simp [Act.eval]) hrz3 hrzH hi5 rfl (by kernel_rfl) (fun w4 hz4 G4 hs4=>?_)
      walk_nrm
      refine laW ?_
      refine l_ret T ?_
      refine l_leaveM O hh G4.ok (val:=.tuple #[.agg zeroPlayed,.int .i64 2]) Try.func14 (fun v M=>?_) (fun w5 G5 hs5=>?_)
      · exact results_cell_row_tmp (fn:=Try.f14) (p:=6) (u:=7) rfl _ v _ 38 zeroPlayed (0,0) _ (by simp) (M.seen hrzH hz4) Try.underlying38 (by rfl) hi5
      · exact h1 _ _ _ ⟨by rw [hpe],rfl,((G03.transN hst G4 (fun _ h=>h.elim) (fun k hk h=>by omega)).transN hst G5 (fun _ h=>h) (fun _ _ h=>h.elim))⟩
    · refine laW ?_
      have em0:decide ((64:Int) < (cells.length:Int))=false:=by simp;omega
      have em':decide ((cells.length:Int) > 64)=false:=by simp;omega
      try simp only [em0,em']
      refine laW ?_
      (refine l_loadH O hh (by simp) rfl (by rfl) hcs3 hsbH (fun w₁ hc₁=>⟨by go_simp,by simp [listed,go_sem,hc₁];exact seen_cell hq _ _ _⟩) ?_;walk_nrm)
      refine laW ?_
      (refine l_enter T (fn:=Try.f47) (c:=.skip) (g:=47) (xs:=#[.slice so ss.length scap,.func (.func 48) #[] #[]]) (by simp) rfl (by rfl) (fun w=>?_) (fun w=>?_) ?_;(focus go_simp);(focus (simp [go_sem,events_into Try.func47 (by kernel_rfl) (by kernel_rfl)])))
      refine contains_calls O (Sk:=fun _=>True) hh G03.ok (by omega) hs3 hsF _ _ trivial (by simp [bk,Frame.at]) rfl (fun v s' w4 hP=>?_) (fun ch s' w' hP=>by cases hP.1)
      obtain ⟨hv,rfl,G4⟩:=hP
      have G04:Grow st (fun k=>k∈l) (fun _=>False) w w4:=G03.transN hst G4 (fun _ h=>h) (fun _ _ h=>h)
      have hrz4:w4.heap[w1.heap.size]?=some (.cells zeroPlayed 38 (0,0)):=(G4.low _ (Array.getElem?_eq_some_iff.1 hrz3).1 hrzH id).trans hrz3
      have hsb4:w4.heap[w.heap.size]?=some (.cells #[.slice so ss.length scap] 42 (0,0)):=(G4.low _ (Array.getElem?_eq_some_iff.1 hsb3).1 hsbH id).trans hsb3
      have hcs4:w4.cell? ⟨w.heap.size,0,none⟩=some (.slice so ss.length scap):=cell_of_heap hsb4 rfl
      cases hfew:allFew (ss.map (·.length)) with
      | false =>
        rw [hfew] at hv
        rw [if_pos (.inr hfew)] at hpe
        cases hv
        rw [bk_finish rfl]
        walk_nrm
        refine laW ?_
        (refine l_cond T true (by simp [Act.eval] <;> omega) ?_;simp only [if_true,if_false,Bool.false_eq_true,↓reduceIte])
        refine laW ?_
        refine l_storeRow O hh (cells:=zeroPlayed) (by simp) G04.ok rfl (by rfl) rfl (by simp [Act.eval]) (by simp [Act.eval]) hrz4 hrzH hi5 rfl (by kernel_rfl) (fun w4b hz4 G4b hs4=>?_)
        walk_nrm
        refine laW ?_
        refine l_ret T ?_
        refine l_leaveM O hh G4b.ok (val:=.tuple #[.agg zeroPlayed,.int .i64 2]) Try.func14 (fun v M=>?_) (fun w5 G5 hs5=>?_)
        · exact results_cell_row_tmp (fn:=Try.f14) (p:=6) (u:=7) rfl _ v _ 38 zeroPlayed (0,0) _ (by simp) (M.seen hrzH hz4) Try.underlying38 (by rfl) hi5
        · exact h1 _ _ _ ⟨by rw [hpe],rfl,((G04.transN hst G4b (fun _ h=>h.elim) (fun k hk h=>by omega)).transN hst G5 (fun _ h=>h) (fun _ _ h=>h.elim))⟩
      | true =>
        rw [hfew] at hv
        rw [if_neg (by rw [hfew];simp;omega)] at hpe
        have hlen:∀ s∈ss,s.length≤1000:=by simpa [allFew] using hfew
        cases hv
        rw [bk_finish rfl]
        walk_nrm
        refine laW ?_
        (refine l_cond T false (by simp [Act.eval] <;> omega) ?_;simp only [if_true,if_false,Bool.false_eq_true,↓reduceIte])
        refine laW ?_
        (refine l_loadH O hh (by simp) rfl (by rfl) hcs4 hsbH (fun w₁ hc₁=>⟨by go_simp,by simp [listed,go_sem,hc₁];exact seen_cell hq _ _ _⟩) ?_;walk_nrm)
        refine laW ?_
        have hs4:=hs.kept hsF fun k h1 h2=>G04.low k h1 h2 id
        have hi4:=hi.keptH hiF fun k h1 h2=>G04.low k h1 h2 id
        have key0:=fun v (M:Masked (fun k=>k∈l) 0 v w4)=>play_blk0 (cc:=cc) (scap:=scap) (M:=ps.length) (pcap:=pcap) (po:=po) (sb:=w.heap.size) (rz:=w1.heap.size) (cells:=cells) (ss:=ss) rfl rfl (by omega) hn64 hlen v (M.ints hi4 hiF) (M.scripts hs4 hsF) (M.seen hrzH hrz4)
        simp only [playBlk0,seqL,seqR,Option.getD_some,Try.f14] at key0
        refine l_pieceE O closedA hh ⟨_,Try.func14⟩ (by kernel_rfl) (slots_nil rfl _) G04.ok (R:=fun v e a u=>e=.ret∧(∀ k,k < v.heap.size→k≠w1.heap.size→u.heap[k]?=v.heap[k]?)∧u.heap[w1.heap.size]?=some (.cells zeroPlayed 38 (0,0))∧a.tmps.getD 6 undef=.pointer (some (c0 w1.heap.size 0))∧a.tmps.getD 7 undef=.int .i64 (scriptsErr cells.length ss))
          (fun v M=>Code.wp_mono (fun e a u hq=>?_) (key0 v M _ _ _ _ _ _ _ _ _ _ _ _ _ _ _ _ _ _ _ _ _ _ _ _ _ _ _ _ _ _ _ _ _ _ _ _ _ _ _ _ _ _ _ _ _ _ _ _ _ _ _ _ _ _ _ _ _ _ _ _ _ _ _ _ _ _ _ _ _ _ _ _ _ _ _ _ _ _ _ _ _ _ _ _ _ _ _ _ _ _ _ _ _ _ _)) (fun v ts v' w5 M hR Al=>nomatch hR.1) (fun v ts v' w5 M hR Al todo=>?_)
        · obtain ⟨_,hd,h2,h3,h4⟩:=hq
          rcases h4 with ⟨_,h4,_⟩ | ⟨rfl,_,h4⟩
          · exact absurd (hpe.trans h4) he
          · refine ⟨.inr rfl,hd,rfl,h2,h3,?_⟩
            obtain ⟨_,_,_,_,_,_,_,_,_,_,_,_,_,_,_,_,_,_,_,_,_,_,_,_,_,_,_,_,_,_,_,_,_,_,_,_,_,_,_,_,_,_,_,_,_,_,_,_,_,_,_,_,_,_,_,_,_,_,_,_,_,_,_,_,_,_,_,_,_,_,_,_,_,_,_,_,_,_,_,_,_,_,_,_,_,_,_,_,_,_,_,_,_,_,_,_,_,_,h4⟩:=h4
            rw [h4]
            exact ⟨rfl,rfl⟩
        · obtain ⟨_,hlow,hz5,e6,e7⟩:=hR
          have G5:Grow st (fun k=>k∈l) (fun k=>k=w1.heap.size) w4 w5:=Al.grow M fun k hk hne=>hlow k hk hne
          have hz5':=Al.masked.cells hz5
          refine l_leaveM O hh G5.ok (val:=.tuple #[.agg zeroPlayed,.int .i64 (scriptsErr cells.length ss)]) Try.func14 (fun v M=>?_) (fun w6 G6 hs6=>?_)
          · have:=results_cell_row_tmp (fn:=Try.f14) (p:=6) (u:=7) rfl ts v w1.heap.size 38 zeroPlayed (0,0) _ (by simpa using e6) (M.seen hrzH hz5') Try.underlying38 (by rfl) hi5
            rw [e7] at this
            exact this
          · exact h1 _ _ _ ⟨by rw [hpe],rfl,((G04.transN hst G5 (fun _ h=>h.elim) (fun k hk h=>by omega)).transN hst G6 (fun _ h=>h) (fun _ _ h=>h.elim))⟩
  · have hpe:playErr cells ss ps=askedErr ss.length ps.length:=by unfold playErr;rw [if_pos ea]
    have eb:(askedErr ss.length ps.length != 0)=true:=by rw [bne_iff_ne];exact ea
    walk_nrm
    refine laW ?_
    (refine l_cond T true (by simp [Act.eval] <;> omega) ?_;simp only [if_true,if_false,Bool.false_eq_true,↓reduceIte])
    refine laW ?_
    refine l_storeRow O hh (cells:=zeroPlayed) (by simp) G03.ok rfl (by rfl) rfl (by simp [Act.eval]) (by simp [Act.eval]) hrz3 hrzH hi5 rfl (by kernel_rfl) (fun w4 hz4 G4 hs4=>?_)
    walk_nrm
    refine laW ?_
    refine l_ret T ?_
    refine l_leaveM O hh G4.ok (val:=.tuple #[.agg zeroPlayed,.int .i64 (askedErr ss.length ps.length)]) Try.func14 (fun v M=>?_) (fun w5 G5 hs5=>?_)
    · exact results_cell_row_tmp (fn:=Try.f14) (p:=6) (u:=7) rfl _ v _ 38 zeroPlayed (0,0) _ (by simp) (M.seen hrzH hz4) Try.underlying38 (by rfl) hi5
    · exact h1 _ _ _ ⟨by rw [hpe],rfl,((G03.transN hst G4 (fun _ h=>h.elim) (fun k hk h=>by omega)).transN hst G5 (fun _ h=>h) (fun _ _ h=>h.elim))⟩
end
end Go.Proofs.Ytndppafplgilbaa
namespace Go.Proofs.Ytndppafplgilbaa
open Go.RowKit
noncomputable def thinsB10:Code:=seqL (seqR (seqR (seqR (seqR (seqR (seqR (seqR (seqR (Try.f5.body.getD .skip)))))))))
set_option maxHeartbeats 16000000 in
theorem thins_chk (sa ea pa fa sa2 ea2 pa2 fa2 ta:Option Addr) (l1 l2 n m sc ec pc an fc sc2 ec2 pc2 an2 fc2 tc p1 p2:Nat) (st:List Stp) (en:List Bool) (ans:List (List Int)) (cs:List Int) (w:World)
    (hl2:l2=(worked st).length) (hn1:n=ans.length) (hn2:n=en.length) (hm:m=cs.length) (hlen:st.length≤1000000) (hnl:n≤64) (hml:m≤64) (hal:∀ x∈ans,x.length≤9223372036854775807)
    (h1:w.heap[p1]?=some (.cells #[.slice sa l1 sc,.slice ea n ec,.slice pa n pc,.slice (some ⟨an,0,none⟩) n n,.slice fa m fc] 38 (0,0))) (h2:w.heap[p2]?=some (.cells #[.slice sa2 l2 sc2,.slice ea2 n ec2,.slice pa2 n pc2,.slice (some ⟨an2,0,none⟩) n n,.slice fa2 m fc2] 38 (0,0)))
    (r1:RowsIn w (some ⟨an,0,none⟩) ans) (r2:RowsIn w (some ⟨an2,0,none⟩) ans) (f1:IntsIn w fa cs) (f2:IntsIn w fa2 cs) (e1:BoolsIn w ea en) (e2:BoolsIn w ea2 en) (s2:StepsIn w sa2 (worked st)) (t1:IntsIn w ta (thin st)) :
    ∀ y0 y1 y2 y3 y4 y5 y10 y11 y12 y13 y14 y15 y16 y17 y18 y19 y20 y21 y22 y23 y24 y25 y26 y27 y28 y29 y30 y31 y32 y33 y34 y35 y36 y37 y38 y39 y40 y41 y42 y43 y44 y45 y46 y47 y48 y49 y50 y51 y52 y53 y54 y55 y56 y57 y58 y59 y60 y61 y62 y63 y64 y65 y66 y67 y68 y69 y70 y71 y72 y73 y74 y75 y76 y77 y78 y79 y80 y81 y82 y83 y84 y85 y86 y87 y88 y89 y90 y91 y92 y93 y94 y95 y96 y97 y98 y99 y100 y101 y102 y103 y104 y105 y106 y107 y108 y109 y110 y111 y112 y113 y114 y115 y116 y117 y118 y119 y120 y121 y122 y123 y124 y125 y126 y127 y128 y129 y130 y131 y132:Value,thinsB10.wp Try.prog (fun e a u=>e=.normal∧a.defers=[]∧Below w.heap.size w u∧∃ z10 z11 z12 z13 z14 z15 z16 z17 z18 z19 z20 z21 z22 z23 z24 z25 z26 z27 z28 z29 z30 z31 z32 z33 z34 z35 z36 z37 z38 z39 z40 z41 z42 z43 z44 z45 z46 z47 z48 z49 z50 z51 z52 z53 z54 z55 z56 z57 z58 z59 z60 z61 z62 z63 z64 z65 z66 z67 z68 z69 z70 z71 z72 z73 z74 z75 z76 z77 z78 z79 z80 z81 z82 z83 z84 z85 z86 z87 z88 z89 z90 z91 z92 z93 z94 z95 z96 z97 z98 z99 z100 z101 z102 z103 z104 z105 z106 z107 z108 z109 z110 z111 z112 z113 z114 z115 z116 z117 z118 z119 z120 z121 z122 z123 z124 z125 z126 z127 z128 z129 z130 z131 z132:Value,a.tmps=#[y0,y1,y2,y3,y4,y5,.pointer (some ⟨p1,0,none⟩),.int .i64 0,.slice ta l2 tc,.pointer (some ⟨p2,0,none⟩),z10,z11,z12,z13,z14,z15,z16,z17,z18,z19,z20,z21,z22,z23,z24,z25,z26,z27,z28,z29,z30,z31,z32,z33,z34,z35,z36,z37,z38,z39,z40,z41,z42,z43,z44,z45,z46,z47,z48,z49,z50,z51,z52,z53,z54,z55,z56,z57,z58,z59,z60,z61,z62,z63,z64,z65,z66,z67,z68,z69,z70,z71,z72,z73,z74,z75,z76,z77,z78,z79,z80,z81,z82,z83,z84,z85,z86,z87,z88,z89,z90,z91,z92,z93,z94,z95,z96,z97,z98,z99,z100,z101,z102,z103,z104,z105,z106,z107,z108,z109,z110,z111,z112,z113,z114,z115,z116,z117,z118,z119,z120,z121,z122,z123,z124,z125,z126,z127,z128,z129,z130,z131,z132]) ⟨#[y0,y1,y2,y3,y4,y5,.pointer (some ⟨p1,0,none⟩),.int .i64 0,.slice ta l2 tc,.pointer (some ⟨p2,0,none⟩),y10,y11,y12,y13,y14,y15,y16,y17,y18,y19,y20,y21,y22,y23,y24,y25,y26,y27,y28,y29,y30,y31,y32,y33,y34,y35,y36,y37,y38,y39,y40,y41,y42,y43,y44,y45,y46,y47,y48,y49,y50,y51,y52,y53,y54,y55,y56,y57,y58,y59,y60,y61,y62,y63,y64,y65,y66,y67,y68,y69,y70,y71,y72,y73,y74,y75,y76,y77,y78,y79,y80,y81,y82,y83,y84,y85,y86,y87,y88,y89,y90,y91,y92,y93,y94,y95,y96,y97,y98,y99,y100,y101,y102,y103,y104,y105,y106,y107,y108,y109,y110,y111,y112,y113,y114,y115,y116,y117,y118,y119,y120,y121,y122,y123,y124,y125,y126,y127,y128,y129,y130,y131,y132],[]⟩ w:=by
  intro y0 y1 y2 y3 y4 y5 y10 y11 y12 y13 y14 y15 y16 y17 y18 y19 y20 y21 y22 y23 y24 y25 y26 y27 y28 y29 y30 y31 y32 y33 y34 y35 y36 y37 y38 y39 y40 y41 y42 y43 y44 y45 y46 y47 y48 y49 y50 y51 y52 y53 y54 y55 y56 y57 y58 y59 y60 y61 y62 y63 y64 y65 y66 y67 y68 y69 y70 y71 y72 y73 y74 y75 y76 y77 y78 y79 y80 y81 y82 y83 y84 y85 y86 y87 y88 y89 y90 y91 y92 y93 y94 y95 y96 y97 y98 y99 y100 y101 y102 y103 y104 y105 y106 y107 y108 y109 y110 y111 y112 y113 y114 y115 y116 y117 y118 y119 y120 y121 y122 y123 y124 y125 y126 y127 y128 y129 y130 y131 y132
  subst hl2
  have hlw:=worked_len st
  have hlt:(thin st).length≤st.length:=thin_le st
  simp only [thinsB10,seqL,seqR,Option.getD_some,Try.f5]
  have c1:w.cell? ⟨p1,3,none⟩=some (.slice (some ⟨an,0,none⟩) n n):=cell_of_heap h1 rfl
  have c2:w.cell? ⟨p2,3,none⟩=some (.slice (some ⟨an2,0,none⟩) n n):=cell_of_heap h2 rfl
  have P1:=Lib.hid h1
  have P2:=Lib.hid h2
  have R1:=Lib.hid r1
  have R2:=Lib.hid r2
  have F1:=Lib.hid f1
  have F2:=Lib.hid f2
  have E1:=Lib.hid e1
  have E2:=Lib.hid e2
  have S2:=Lib.hid s2
  have T1:=Lib.hid t1
  have HN1:=Lib.hid hn1
  have HN2:=Lib.hid hn2
  have HM:=Lib.hid hm
  have HLW:=Lib.hid hlw
  have HAL:=Lib.hid hal
  clear h1 h2 r1 r2 f1 f2 e1 e2 s2 t1 hn1 hn2 hm hlw hal
  go_wp2_with (go_at_call 20;refine (lists_same _ _ _ _ _ _ ans _ HN1.out HN1.out R2.out R1.out (by have:=HN1.out;omega) HAL.out).mono ?_;rintro e w1 ⟨rfl,g1⟩;have q1:w1.cell? ⟨p1,4,none⟩=some (.slice fa m fc):=cell_of_heap (g1.heap P1.out id) (j:=4) rfl;have q2:w1.cell? ⟨p2,4,none⟩=some (.slice fa2 m fc2):=cell_of_heap (g1.heap P2.out id) (j:=4) rfl;have G1:=Lib.hid g1;clear g1 c1 c2)
  clear q1 q2
  go_wp2_with (go_at_call 18;refine (ints_same' _ _ _ _ _ _ cs _ HM.out HM.out (F2.out.turns G1.out) (F1.out.turns G1.out) (by have:=HM.out;omega)).mono ?_;rintro e w2 ⟨rfl,g2⟩;have G2:=Lib.hid (G1.out.trans g2);clear g2;have q1:w2.cell? ⟨p1,1,none⟩=some (.slice ea n ec):=cell_of_heap (G2.out.heap P1.out id) (j:=1) rfl;have q2:w2.cell? ⟨p2,1,none⟩=some (.slice ea2 n ec2):=cell_of_heap (G2.out.heap P2.out id) (j:=1) rfl)
  clear q1 q2
  go_wp2_with (go_at_call 21;refine (bools_same _ _ _ _ _ _ en _ HN2.out HN2.out (E2.out.turns G2.out) (E1.out.turns G2.out) (by have:=HN2.out;omega)).mono ?_;rintro e w3 ⟨rfl,g3⟩;have G3:=Lib.hid (G2.out.trans g3);clear g3;have q2:w3.cell? ⟨p2,0,none⟩=some (.slice sa2 (worked st).length sc2):=cell_of_heap (G3.out.heap P2.out id) (j:=0) rfl)
  clear q2
  go_wp2_with (go_at_call 19;refine (thin_any _ _ (worked st) _ (by have:=HLW.out;omega) (S2.out.turns G3.out)).mono ?_;rintro e w4 ⟨v4,rfl,o4,b4⟩;have B4:=Lib.hid b4;clear b4;obtain ⟨a4,k4,rfl,i4⟩:=RowI.intsIn o4;have I4:=Lib.hid i4;clear o4 i4)
  go_wp2_with (go_at_call 18;refine (ints_same' _ _ _ _ _ _ (thin st) _ (by rw [worked_thin]) (by have:=HLW.out;omega) (by have:=I4.out;rw [worked_thin] at this;exact this) ((T1.out.turns G3.out).below B4.out) (by omega)).mono ?_;rintro e w5 ⟨rfl,g5⟩;have B5:=Lib.hid (((G3.out.below (by intros;first | exact False.elim ‹False› | (exfalso;assumption)) (Nat.le_refl _)).trans (B4.out.mono G3.out.size)).trans (g5.below (by intros;first | exact False.elim ‹False› | (exfalso;assumption)) (Nat.le_trans G3.out.size B4.out.size)));have q2:w5.cell? ⟨p2,0,none⟩=some (.slice sa2 (worked st).length sc2):=cell_of_heap ((g5.heap (by rw [B4.out.block _ (Array.getElem?_eq_some_iff.1 (G3.out.heap P2.out id)).1];exact G3.out.heap P2.out id) id)) (j:=0) rfl;clear g5)
  exact ⟨rfl,rfl,B5.out,_,_,_,_,_,_,_,_,_,_,_,_,_,_,_,_,_,_,_,_,_,_,_,_,_,_,_,_,_,_,_,_,_,_,_,_,_,_,_,_,_,_,_,_,_,_,_,_,_,_,_,_,_,_,_,_,_,_,_,_,_,_,_,_,_,_,_,_,_,_,_,_,_,_,_,_,_,_,_,_,_,_,_,_,_,_,_,_,_,_,_,_,_,_,_,_,_,_,_,_,_,_,_,_,_,_,_,_,_,_,_,_,_,_,_,_,_,_,_,_,_,_,_,rfl⟩
end Go.Proofs.Ytndppafplgilbaa
namespace Go.Proofs.Ytndppafplgilbaa
open Go.RowKit
noncomputable def thinsB15:Code:=(seqR (seqR (seqR (seqR (seqR (seqR (seqR (seqR (seqR (seqR (seqR (Try.f5.body.getD .skip))))))))))))
set_option maxHeartbeats 16000000 in
theorem thins_endS (sa3:Option Addr) (k sc3 p1 p3 sg sc:Nat) (c1 c3:Array Value) (st:List Stp) (w:World) (hk:k≤st.length) (hlen:st.length≤1000000) (hc:st.length≤sc)
    (h1:w.heap[p1]?=some (.cells c1 38 (0,0))) (g1:c1[0]?=some (.slice (some ⟨sg,0,none⟩) st.length sc)) (h3:w.heap[p3]?=some (.cells c3 38 (0,0))) (g3:c3[0]?=some (.slice sa3 k sc3))
    (s1:StepsIn w (some ⟨sg,0,none⟩) st) (s3:StepsIn w sa3 (st.take k)) :
    ∀ y0 y2 y3 y4 y5 y8 y9 y11 y12 y13 y14 y15 y16 y17 y18 y19 y20 y21 y22 y23 y24 y25 y26 y27 y28 y29 y30 y31 y32 y33 y34 y35 y36 y37 y38 y39 y40 y41 y42 y43 y44 y45 y46 y47 y48 y49 y50 y51 y52 y53 y54 y55 y56 y57 y58 y59 y60 y61 y62 y63 y64 y65 y66 y67 y68 y69 y70 y71 y72 y73 y74 y75 y76 y77 y78 y79 y80 y81 y82 y83 y84 y85 y86 y87 y88 y89 y90 y91 y92 y93 y94 y95 y96 y97 y98 y99 y100 y101 y102 y103 y104 y105 y106 y107 y108 y109 y110 y111 y112 y113 y114 y115 y116 y117 y118 y119 y120 y121 y122 y123 y124 y125 y126 y127 y128 y129 y130 y131 y132:Value,thinsB15.wp Try.prog (fun e a u=>e=.ret∧a.defers=[]∧a.tmps.getD 4 undef=.bool true∧Below w.heap.size w u) ⟨#[y0,.int .i64 (k:Int),y2,y3,y4,y5,.pointer (some ⟨p1,0,none⟩),.int .i64 0,y8,y9,.pointer (some ⟨p3,0,none⟩),y11,y12,y13,y14,y15,y16,y17,y18,y19,y20,y21,y22,y23,y24,y25,y26,y27,y28,y29,y30,y31,y32,y33,y34,y35,y36,y37,y38,y39,y40,y41,y42,y43,y44,y45,y46,y47,y48,y49,y50,y51,y52,y53,y54,y55,y56,y57,y58,y59,y60,y61,y62,y63,y64,y65,y66,y67,y68,y69,y70,y71,y72,y73,y74,y75,y76,y77,y78,y79,y80,y81,y82,y83,y84,y85,y86,y87,y88,y89,y90,y91,y92,y93,y94,y95,y96,y97,y98,y99,y100,y101,y102,y103,y104,y105,y106,y107,y108,y109,y110,y111,y112,y113,y114,y115,y116,y117,y118,y119,y120,y121,y122,y123,y124,y125,y126,y127,y128,y129,y130,y131,y132],[]⟩ w:=by
  intro y0 y2 y3 y4 y5 y8 y9 y11 y12 y13 y14 y15 y16 y17 y18 y19 y20 y21 y22 y23 y24 y25 y26 y27 y28 y29 y30 y31 y32 y33 y34 y35 y36 y37 y38 y39 y40 y41 y42 y43 y44 y45 y46 y47 y48 y49 y50 y51 y52 y53 y54 y55 y56 y57 y58 y59 y60 y61 y62 y63 y64 y65 y66 y67 y68 y69 y70 y71 y72 y73 y74 y75 y76 y77 y78 y79 y80 y81 y82 y83 y84 y85 y86 y87 y88 y89 y90 y91 y92 y93 y94 y95 y96 y97 y98 y99 y100 y101 y102 y103 y104 y105 y106 y107 y108 y109 y110 y111 y112 y113 y114 y115 y116 y117 y118 y119 y120 y121 y122 y123 y124 y125 y126 y127 y128 y129 y130 y131 y132
  have q1:w.cell? ⟨p1,0,none⟩=some (.slice (some ⟨sg,0,none⟩) st.length sc):=cell_of_heap h1 g1
  have q3:w.cell? ⟨p3,0,none⟩=some (.slice sa3 k sc3):=cell_of_heap h3 g3
  have s1':StepsIn w (some ⟨sg,0,none⟩) (st.take k):=fun j hj=>by
    have hj':j < st.length:=by simp at hj;omega
    obtain ⟨b,off,e,x1,x2,x3⟩:=s1 j hj'
    exact ⟨b,off,e,by rw [List.getElem_take];exact x1,by rw [List.getElem_take];exact x2,by rw [List.getElem_take];exact x3⟩
  have hlk:k=(st.take k).length:=by rw [List.length_take];omega
  have S1:=Lib.hid s1'
  have S3:=Lib.hid s3
  have HLK:=Lib.hid hlk
  clear h1 h3 g1 g3 s1 s1' s3 hlk
  simp only [thinsB15,seqR,Option.getD_some,Try.f5]
  have k0:(0:Int)≤(k:Int):=by omega
  have k1:(k:Int)≤(sc:Int):=by omega
  go_wp2_with fail
  go_region_held3 (fun w'=>w'.cell? ⟨p1,0,none⟩=some (.slice (some ⟨sg,0,none⟩) st.length sc)∧w'.cell? ⟨p3,0,none⟩=some (.slice sa3 k sc3))
    (first | go_keep | exact ⟨t2.cell q1 id,t2.cell q3 id⟩)
    (first | (go_at_call 22;refine (steps_same _ _ _ _ _ _ (st.take k) _ HLK.out HLK.out (S3.out.turns (Turns.drew _ _)) (S1.out.turns (Turns.drew _ _)) (by have:=HLK.out;omega)).mono ?_;rintro e w2 ⟨rfl,t2⟩))
  go_wp2
  exact ((Turns.drew (fun _=>False) w).trans t2).below (by intros;first | exact False.elim ‹False› | (exfalso;assumption)) (Nat.le_refl _)
set_option maxHeartbeats 16000000 in
theorem thins_endN (sa3:Option Addr) (sc3 p1 p3:Nat) (c1 c3:Array Value) (w:World)
    (h1:w.heap[p1]?=some (.cells c1 38 (0,0))) (g1:c1[0]?=some (.slice none 0 0)) (h3:w.heap[p3]?=some (.cells c3 38 (0,0))) (g3:c3[0]?=some (.slice sa3 0 sc3)) :
    ∀ y0 y2 y3 y4 y5 y8 y9 y11 y12 y13 y14 y15 y16 y17 y18 y19 y20 y21 y22 y23 y24 y25 y26 y27 y28 y29 y30 y31 y32 y33 y34 y35 y36 y37 y38 y39 y40 y41 y42 y43 y44 y45 y46 y47 y48 y49 y50 y51 y52 y53 y54 y55 y56 y57 y58 y59 y60 y61 y62 y63 y64 y65 y66 y67 y68 y69 y70 y71 y72 y73 y74 y75 y76 y77 y78 y79 y80 y81 y82 y83 y84 y85 y86 y87 y88 y89 y90 y91 y92 y93 y94 y95 y96 y97 y98 y99 y100 y101 y102 y103 y104 y105 y106 y107 y108 y109 y110 y111 y112 y113 y114 y115 y116 y117 y118 y119 y120 y121 y122 y123 y124 y125 y126 y127 y128 y129 y130 y131 y132:Value,thinsB15.wp Try.prog (fun e a u=>e=.ret∧a.defers=[]∧a.tmps.getD 4 undef=.bool true∧Below w.heap.size w u) ⟨#[y0,.int .i64 0,y2,y3,y4,y5,.pointer (some ⟨p1,0,none⟩),.int .i64 0,y8,y9,.pointer (some ⟨p3,0,none⟩),y11,y12,y13,y14,y15,y16,y17,y18,y19,y20,y21,y22,y23,y24,y25,y26,y27,y28,y29,y30,y31,y32,y33,y34,y35,y36,y37,y38,y39,y40,y41,y42,y43,y44,y45,y46,y47,y48,y49,y50,y51,y52,y53,y54,y55,y56,y57,y58,y59,y60,y61,y62,y63,y64,y65,y66,y67,y68,y69,y70,y71,y72,y73,y74,y75,y76,y77,y78,y79,y80,y81,y82,y83,y84,y85,y86,y87,y88,y89,y90,y91,y92,y93,y94,y95,y96,y97,y98,y99,y100,y101,y102,y103,y104,y105,y106,y107,y108,y109,y110,y111,y112,y113,y114,y115,y116,y117,y118,y119,y120,y121,y122,y123,y124,y125,y126,y127,y128,y129,y130,y131,y132],[]⟩ w:=by
  intro y0 y2 y3 y4 y5 y8 y9 y11 y12 y13 y14 y15 y16 y17 y18 y19 y20 y21 y22 y23 y24 y25 y26 y27 y28 y29 y30 y31 y32 y33 y34 y35 y36 y37 y38 y39 y40 y41 y42 y43 y44 y45 y46 y47 y48 y49 y50 y51 y52 y53 y54 y55 y56 y57 y58 y59 y60 y61 y62 y63 y64 y65 y66 y67 y68 y69 y70 y71 y72 y73 y74 y75 y76 y77 y78 y79 y80 y81 y82 y83 y84 y85 y86 y87 y88 y89 y90 y91 y92 y93 y94 y95 y96 y97 y98 y99 y100 y101 y102 y103 y104 y105 y106 y107 y108 y109 y110 y111 y112 y113 y114 y115 y116 y117 y118 y119 y120 y121 y122 y123 y124 y125 y126 y127 y128 y129 y130 y131 y132
  have q1:w.cell? ⟨p1,0,none⟩=some (.slice none 0 0):=cell_of_heap h1 g1
  have q3:w.cell? ⟨p3,0,none⟩=some (.slice sa3 0 sc3):=cell_of_heap h3 g3
  clear h1 h3 g1 g3
  simp only [thinsB15,seqR,Option.getD_some,Try.f5]
  go_wp2_with fail
  go_region_held3 (fun w'=>w'.cell? ⟨p1,0,none⟩=some (.slice none 0 0)∧w'.cell? ⟨p3,0,none⟩=some (.slice sa3 0 sc3))
    (first | go_keep | exact ⟨t2.cell q1 id,t2.cell q3 id⟩)
    (first | (go_at_call 22;refine (steps_same _ _ _ _ _ _ ([]:List Stp) _ rfl rfl (fun j hj=>absurd hj (by simp)) (fun j hj=>absurd hj (by simp)) (by simp)).mono ?_;rintro e w2 ⟨rfl,t2⟩))
  go_wp2
  exact ((Turns.drew (fun _=>False) w).trans t2).below (by intros;first | exact False.elim ‹False› | (exfalso;assumption)) (Nat.le_refl _)
end Go.Proofs.Ytndppafplgilbaa
