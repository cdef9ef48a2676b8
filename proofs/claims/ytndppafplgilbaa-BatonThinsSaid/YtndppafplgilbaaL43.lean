/-
  larchlaw04.BatonThins returns true for every input. No condition. (Part 43 of 49; joined by program.)
-/
import Derived.Test.YtndppafplgilbaaL42
import Derived.Test.YtndppafplgilbaaL28
set_option linter.unusedVariables false
set_option linter.unusedSimpArgs false
set_option linter.unusedSectionVars false
set_option maxRecDepth 100000
namespace Go.Proofs.Ytndppafplgilbaa
open Go Go.Conc Go.RowKit
open Go.ConcN (sumTo upd sumTo_upd upd_ne upd_same)
noncomputable def playB4:Code:=seqR (seqR (seqR (seqR (Try.f14.body.getD .skip))))
section
variable {Post:Value→World→Prop}
set_option maxRecDepth 100000 in
set_option maxHeartbeats 16000000 in
theorem play_a {c:Frame} {cf:List Frame} {l:List Nat} {st:Addr} {n0 cc scap pcap:Nat} {ca so po:Option Addr} {ao:Nat→Option Addr} {acap:Nat→Nat} {cells:List Int} {ss:List (List A4)} {ps:List Int} {w:World} (hst:st.spot=none→st.block∈l) (ok:HidOk (fun k=>k∈l) w)
    (hm64:cells.length≤64) (hn1:1≤ss.length) (hn64:ss.length≤64) (hM6:ps.length≤1000000) (hlen:∀ s∈ss,s.length≤1000) (herr:scriptsErr cells.length ss=0)
    (hi:IntsIn w ca cells) (hiF:∀ b off,ca=some ⟨b,off,none⟩→cells≠[]→b ∉ l) (hs:ScriptsIn w so ao acap ss) (hsF:ScrFree (fun k=>k∈l) so ao ss)
    (H:∀ (w':World) (sb rz:Nat),(w.heap.size≤sb∧sb < rz∧sb ∉ l∧rz ∉ l)→Grow st (fun k=>k∈l) (fun _=>False) w w'→w'.heap[sb]?=some (.cells #[.slice so ss.length scap] 42 (0,0))→w'.heap[rz]?=some (.cells zeroPlayed 38 (0,0))→∀ ts:Array Value,(∃ z3 z5 z8 z9 z10 z11 z12 z13 z14 z15 z16 z17 z18 z19 z20 z21 z22 z23 z24 z25 z26 z27 z28 z29 z30 z31 z32 z33 z34 z35 z36 z37 z38 z39 z40 z41 z42 z43 z44 z45 z46 z47 z48 z49 z50 z51 z52 z53 z54 z55 z56 z57 z58 z59 z60 z61 z62 z63 z64 z65 z66 z67 z68 z69 z70 z71 z72 z73 z74 z75 z76 z77 z78 z79 z80 z81 z82 z83 z84 z85 z86 z87 z88 z89 z90 z91 z92 z93 z94 z95 z96 z97 z98 z99 z100 z101 z102 z103:Value,ts=#[.slice ca cells.length cc,.slice so ss.length scap,.slice po ps.length pcap,z3,.pointer (some (c0 sb 0)),z5,.pointer (some (c0 rz 0)),.int .i64 0,z8,z9,z10,z11,z12,z13,z14,z15,z16,z17,z18,z19,z20,z21,z22,z23,z24,z25,z26,z27,z28,z29,z30,z31,z32,z33,z34,z35,z36,z37,z38,z39,z40,z41,z42,z43,z44,z45,z46,z47,z48,z49,z50,z51,z52,z53,z54,z55,z56,z57,z58,z59,z60,z61,z62,z63,z64,z65,z66,z67,z68,z69,z70,z71,z72,z73,z74,z75,z76,z77,z78,z79,z80,z81,z82,z83,z84,z85,z86,z87,z88,z89,z90,z91,z92,z93,z94,z95,z96,z97,z98,z99,z100,z101,z102,z103])→LM Try.prog Post (sitI l st n0) (G ((bk 14 .normal).at ⟨ts,[]⟩ [.code playB4]) (c :: cf)) w') :
    LM Try.prog Post (sitI l st n0) (G (Frame.enter Try.prog 14 #[.slice ca cells.length cc,.slice so ss.length scap,.slice po ps.length pcap] .normal) (c :: cf)) w:=by
  have O:=ownM Try.prog Post
  have T:=O.toCtl
  have hq:(Try.prog.funcs[14]?).any (·.norace)=false:=by rw [Try.func14];rfl
  have hh:=hidesI (n:=n0) hst
  rw [enter_bk Try.func14 rfl]
  walk_nrmf Try.f14
  refine laW ?_
  refine l_new O hh (by simp) ok rfl (by rfl) (by kernel_rfl) (fun n=>.pointer (some (c0 n 0))) (c:=#[.slice so ss.length scap]) (t:=42) (fun v=>by go_simp) (fun w1 hsb1 G1 hl1=>?_)
  walk_nrm
  refine laW ?_
  refine l_new O hh (by simp) G1.ok rfl (by rfl) (by kernel_rfl) (fun n=>.pointer (some (c0 n 0))) (c:=zeroPlayed) (t:=38) (fun v=>by go_simp) (fun w2 hrz2 G2 hl2=>?_)
  walk_nrm
  have hsbH:w.heap.size ∉ l:=fun h=>by have:=ok.lt h;omega
  have hrzH:w1.heap.size ∉ l:=fun h=>by have:=G1.ok.lt h;omega
  have hsb2:w2.heap[w.heap.size]?=some (.cells #[.slice so ss.length scap] 42 (0,0)):=(G2.low _ hl1 hsbH id).trans hsb1
  have G02:Grow st (fun k=>k∈l) (fun _=>False) w w2:=G1.transN hst G2 (fun _ h=>h) (fun _ _ h=>h)
  have hcs2:w2.cell? ⟨w.heap.size,0,none⟩=some (.slice so ss.length scap):=cell_of_heap hsb2 rfl
  refine laW ?_
  (refine l_loadH O hh (by simp) rfl (by rfl) hcs2 hsbH (fun w₁ hc₁=>⟨by go_simp,by simp [listed,go_sem,hc₁];exact seen_cell hq _ _ _⟩) ?_;walk_nrm)
  refine laW ?_
  (refine l_enter T (fn:=Try.f46) (c:=.skip) (g:=46) (xs:=#[.int .i64 ss.length,.slice po ps.length pcap]) (by simp) rfl (by rfl) (fun w=>?_) (fun w=>?_) ?_;(focus go_simp);(focus (simp [go_sem,events_into Try.func46 (by kernel_rfl) (by kernel_rfl)])))
  refine check_calls hn1 hn64 hM6 _ _ trivial (by simp [bk,Frame.at]) rfl (fun v s' w' hP=>?_) (fun ch s' w' hP=>by cases hP.1)
  obtain ⟨hv,rfl,rfl⟩:=hP
  cases hv
  rw [bk_finish rfl]
  walk_nrm
  refine laW ?_
  (refine l_cond T false (by simp [Act.eval] <;> omega) ?_;simp only [if_true,if_false,Bool.false_eq_true,↓reduceIte])
  refine laW ?_
  have em:decide ((64:Int) < (cells.length:Int))=false:=by simp;omega
  have em':decide ((cells.length:Int) > 64)=false:=by simp;omega
  try simp only [em,em']
  refine laW ?_
  (refine l_loadH O hh (by simp) rfl (by rfl) hcs2 hsbH (fun w₁ hc₁=>⟨by go_simp,by simp [listed,go_sem,hc₁];exact seen_cell hq _ _ _⟩) ?_;walk_nrm)
  (refine l_enter T (fn:=Try.f47) (c:=.skip) (g:=47) (xs:=#[.slice so ss.length scap,.func (.func 48) #[] #[]]) (by simp) rfl (by rfl) (fun w=>?_) (fun w=>?_) ?_;(focus go_simp);(focus (simp [go_sem,events_into Try.func47 (by kernel_rfl) (by kernel_rfl)])))
  have hs2:=hs.kept hsF fun k h1 h2=>G02.low k h1 h2 id
  have hi2:=hi.keptH hiF fun k h1 h2=>G02.low k h1 h2 id
  have hfew:allFew (ss.map (·.length))=true:=by simpa [allFew] using hlen
  refine contains_calls O (Sk:=fun _=>True) hh G02.ok (by omega) hs2 hsF _ _ trivial (by simp [bk,Frame.at]) rfl (fun v s' w3 hP=>?_) (fun ch s' w' hP=>by cases hP.1)
  obtain ⟨hv,rfl,G3⟩:=hP
  rw [hfew] at hv
  cases hv
  rw [bk_finish rfl]
  have G03:Grow st (fun k=>k∈l) (fun _=>False) w w3:=G02.transN hst G3 (fun _ h=>h) (fun _ _ h=>h)
  have hsb3:w3.heap[w.heap.size]?=some (.cells #[.slice so ss.length scap] 42 (0,0)):=(G3.low _ (Array.getElem?_eq_some_iff.1 hsb2).1 hsbH id).trans hsb2
  have hrz3:w3.heap[w1.heap.size]?=some (.cells zeroPlayed 38 (0,0)):=(G3.low _ hl2 hrzH id).trans hrz2
  have hcs3:w3.cell? ⟨w.heap.size,0,none⟩=some (.slice so ss.length scap):=cell_of_heap hsb3 rfl
  walk_nrm
  refine laW ?_
  (refine l_cond T false (by simp [Act.eval] <;> omega) ?_;simp only [if_true,if_false,Bool.false_eq_true,↓reduceIte])
  refine laW ?_
  (refine l_loadH O hh (by simp) rfl (by rfl) hcs3 hsbH (fun w₁ hc₁=>⟨by go_simp,by simp [listed,go_sem,hc₁];exact seen_cell hq _ _ _⟩) ?_;walk_nrm)
  refine laW ?_
  have hs3:=hs.kept hsF fun k h1 h2=>G03.low k h1 h2 id
  have hi3:=hi.keptH hiF fun k h1 h2=>G03.low k h1 h2 id
  have key0:=fun v (M:Masked (fun k=>k∈l) 0 v w3)=>play_blk0 (cc:=cc) (scap:=scap) (M:=ps.length) (pcap:=pcap) (po:=po) (sb:=w.heap.size) (rz:=w1.heap.size) (cells:=cells) (ss:=ss) rfl rfl hm64 hn64 hlen v (M.ints hi3 hiF) (M.scripts hs3 hsF) (M.seen hrzH hrz3)
  simp only [playBlk0,seqL,seqR,Option.getD_some,Try.f14] at key0
  refine l_piece O (Y:=dynA) closedA hh ⟨_,Try.func14⟩ (by kernel_rfl) (slots_nil rfl _) G03.ok (R:=fun v a u=>(∀ k,k < v.heap.size→k≠w1.heap.size→u.heap[k]?=v.heap[k]?)∧u.heap[w1.heap.size]?=some (.cells zeroPlayed 38 (0,0))∧∃ z3 z5 z8 z9 z10 z11 z12 z13 z14 z15 z16 z17 z18 z19 z20 z21 z22 z23 z24 z25 z26 z27 z28 z29 z30 z31 z32 z33 z34 z35 z36 z37 z38 z39 z40 z41 z42 z43 z44 z45 z46 z47 z48 z49 z50 z51 z52 z53 z54 z55 z56 z57 z58 z59 z60 z61 z62 z63 z64 z65 z66 z67 z68 z69 z70 z71 z72 z73 z74 z75 z76 z77 z78 z79 z80 z81 z82 z83 z84 z85 z86 z87 z88 z89 z90 z91 z92 z93 z94 z95 z96 z97 z98 z99 z100 z101 z102 z103:Value,a.tmps=#[.slice ca cells.length cc,.slice so ss.length scap,.slice po ps.length pcap,z3,.pointer (some (c0 w.heap.size 0)),z5,.pointer (some (c0 w1.heap.size 0)),.int .i64 0,z8,z9,z10,z11,z12,z13,z14,z15,z16,z17,z18,z19,z20,z21,z22,z23,z24,z25,z26,z27,z28,z29,z30,z31,z32,z33,z34,z35,z36,z37,z38,z39,z40,z41,z42,z43,z44,z45,z46,z47,z48,z49,z50,z51,z52,z53,z54,z55,z56,z57,z58,z59,z60,z61,z62,z63,z64,z65,z66,z67,z68,z69,z70,z71,z72,z73,z74,z75,z76,z77,z78,z79,z80,z81,z82,z83,z84,z85,z86,z87,z88,z89,z90,z91,z92,z93,z94,z95,z96,z97,z98,z99,z100,z101,z102,z103]) (fun v M=>Code.wp_mono (fun e a u hq=>?_) (key0 v M _ _ _ _ _ _ _ _ _ _ _ _ _ _ _ _ _ _ _ _ _ _ _ _ _ _ _ _ _ _ _ _ _ _ _ _ _ _ _ _ _ _ _ _ _ _ _ _ _ _ _ _ _ _ _ _ _ _ _ _ _ _ _ _ _ _ _ _ _ _ _ _ _ _ _ _ _ _ _ _ _ _ _ _ _ _ _ _ _ _ _ _ _ _ _)) (fun v ts v' w4 M hR Al=>?_)
  · obtain ⟨_,hd,h2,h3,h4⟩:=hq
    rcases h4 with ⟨rfl,_,h4⟩ | ⟨_,h4,_⟩
    · exact ⟨rfl,hd,h2,h3,h4⟩
    · exact absurd herr h4
  clear key0
  obtain ⟨hlow,hrz4,e⟩:=hR
  have hsz:v.heap.size=w3.heap.size:=M.size
  have G4:Grow st (fun k=>k∈l) (fun k=>k=w1.heap.size) w3 w4:=Al.grow M fun k hk hne=>hlow k hk hne
  have key:=H w4 w.heap.size w1.heap.size ⟨Nat.le_refl _,hl1,hsbH,hrzH⟩ (G03.transN hst G4 (fun _ h=>h) fun k hk h=>by omega) ((G4.low _ (Array.getElem?_eq_some_iff.1 hsb3).1 hsbH (by omega)).trans hsb3) (Al.masked.cells hrz4) ts e
  simp only [playB4,seqR,Option.getD_some,Try.f14] at key
  exact key
end
end Go.Proofs.Ytndppafplgilbaa
namespace Go.Proofs.Ytndppafplgilbaa
open Go Go.Conc Go.RowKit
open Go.ConcN (sumTo upd sumTo_upd upd_ne upd_same)
noncomputable def playB6:Code:=seqR (seqR (seqR (seqR (seqR (seqR (Try.f14.body.getD .skip))))))
structure Half (st:Addr) (w:World) (l:List Nat) (m:Nat) (cells:List Int) (ssv:Value) (sb rz rowB rbv nb0:Nat) (w':World):Prop where
  low:∀ k,k < w.heap.size→k ∉ l→w'.heap[k]?=w.heap[k]?
  ord:w.heap.size≤sb∧sb < rz∧rz < rowB∧rowB < rbv∧rbv < nb0∧nb0 + m≤w'.heap.size
  ok:HidOk (fun k=>k∈l) w'
  sb_:w'.heap[sb]?=some (.cells #[ssv] 42 (0,0))
  rz_:w'.heap[rz]?=some (.cells zeroPlayed 38 (0,0))
  rv:w'.heap[rbv]?=some (.cells #[.slice (some ⟨rowB,0,none⟩) m m] 57 (0,0))
  row:∃ c:Array Value,w'.heap[rowB]?=some (.cells c 72 (0,0))∧∀ i,i < m→c[i]?=some (.pointer (some ⟨nb0 + i,0,none⟩))
  nums:∀ (i:Nat) (h:i < cells.length),NumC (nb0 + i) cells[i] w'
  old:w.cell? st=some (.int .u64 0)→w'.cell? st=some (.int .u64 0)
section
variable {Post:Value→World→Prop}
theorem run_mk {P:Program} {t e:TypeId} {z:Value} {bytes:Nat} (ht:P.underlying t=some (.slice e)) (hinfo:(P.info? e).map (fun i=>(i.zero,i.size,i.bytes))=some (some z,1,bytes)) (hz:z.cells=#[z]) {n:Nat} (hb:bytes * n≤281474976710656) (h63:n≤9223372036854775807) {ρ:Operand→Value} {o:Oper} {x y:Operand} (ho:o.op=.makeSlice t x y) (hx:ρ x=.int .i64 (n:Int)) (hy:ρ y=.int .i64 (n:Int)) (v:World) :
    (execOp ρ o).run P v=.ok (.value (.slice (some ⟨v.heap.size,0,none⟩) n n)) (v.alloc (.cells (mkRow z n) e)):=by
  unfold execOp
  simp only [ho,hx,hy]
  show (Sem.bind (Instr.makeSlice t (.int .i64 (n:Int)) (.int .i64 (n:Int))) _).run P v=_
  rw [Sem.run_bind',run_makeN t e z bytes ht hinfo hz n hb h63 v]
  rfl
set_option maxRecDepth 100000 in
set_option maxHeartbeats 32000000 in
theorem play_b {c:Frame} {cf:List Frame} {l:List Nat} {st:Addr} {n0 cc scap pcap sb rz:Nat} {ca so po:Option Addr} {cells:List Int} {ss:List (List A4)} {ps:List Int} {w w1:World} (hst:st.spot=none→st.block∈l) (ok:HidOk (fun k=>k∈l) w)
    (hm64:cells.length≤64) (hn64:ss.length≤64) (hi:IntsIn w ca cells) (hiF:∀ b off,ca=some ⟨b,off,none⟩→cells≠[]→b ∉ l)
    (hsb:w.heap.size≤sb∧sb < rz∧sb ∉ l∧rz ∉ l) (G01:Grow st (fun k=>k∈l) (fun _=>False) w w1) (hsb1:w1.heap[sb]?=some (.cells #[.slice so ss.length scap] 42 (0,0))) (hrz1:w1.heap[rz]?=some (.cells zeroPlayed 38 (0,0)))
    (H:∀ (w':World) (rowB rbv nb0:Nat),Half st w l cells.length cells (.slice so ss.length scap) sb rz rowB rbv nb0 w'→∀ ts:Array Value,(∃ z3 z5 z8 z9 z10 z11 z12 z13 z14 z16 z17 z18 z19 z20 z21 z22 z23 z24 z25 z26 z27 z28 z29 z30 z31 z32 z33 z34 z35 z36 z37 z38 z39 z40 z41 z42 z43 z44 z45 z46 z47 z48 z49 z50 z51 z52 z53 z54 z55 z56 z57 z58 z59 z60 z61 z62 z63 z64 z65 z66 z67 z68 z69 z70 z71 z72 z73 z74 z75 z76 z77 z78 z79 z80 z81 z82 z83 z84 z85 z86 z87 z88 z89 z90 z91 z92 z93 z94 z95 z96 z97 z98 z99 z100 z101 z102 z103:Value,ts=#[.slice ca cells.length cc,.slice so ss.length scap,.slice po ps.length pcap,z3,.pointer (some (c0 sb 0)),z5,.pointer (some (c0 rz 0)),.int .i64 0,z8,z9,z10,z11,z12,z13,z14,.pointer (some (c0 rbv 0)),z16,z17,z18,z19,z20,z21,z22,z23,z24,z25,z26,z27,z28,z29,z30,z31,z32,z33,z34,z35,z36,z37,z38,z39,z40,z41,z42,z43,z44,z45,z46,z47,z48,z49,z50,z51,z52,z53,z54,z55,z56,z57,z58,z59,z60,z61,z62,z63,z64,z65,z66,z67,z68,z69,z70,z71,z72,z73,z74,z75,z76,z77,z78,z79,z80,z81,z82,z83,z84,z85,z86,z87,z88,z89,z90,z91,z92,z93,z94,z95,z96,z97,z98,z99,z100,z101,z102,z103])→LM Try.prog Post (sitI l st n0) (G ((bk 14 .normal).at ⟨ts,[]⟩ [.code playB6]) (c :: cf)) w')
    {ts:Array Value} (hts:∃ z3 z5 z8 z9 z10 z11 z12 z13 z14 z15 z16 z17 z18 z19 z20 z21 z22 z23 z24 z25 z26 z27 z28 z29 z30 z31 z32 z33 z34 z35 z36 z37 z38 z39 z40 z41 z42 z43 z44 z45 z46 z47 z48 z49 z50 z51 z52 z53 z54 z55 z56 z57 z58 z59 z60 z61 z62 z63 z64 z65 z66 z67 z68 z69 z70 z71 z72 z73 z74 z75 z76 z77 z78 z79 z80 z81 z82 z83 z84 z85 z86 z87 z88 z89 z90 z91 z92 z93 z94 z95 z96 z97 z98 z99 z100 z101 z102 z103:Value,ts=#[.slice ca cells.length cc,.slice so ss.length scap,.slice po ps.length pcap,z3,.pointer (some (c0 sb 0)),z5,.pointer (some (c0 rz 0)),.int .i64 0,z8,z9,z10,z11,z12,z13,z14,z15,z16,z17,z18,z19,z20,z21,z22,z23,z24,z25,z26,z27,z28,z29,z30,z31,z32,z33,z34,z35,z36,z37,z38,z39,z40,z41,z42,z43,z44,z45,z46,z47,z48,z49,z50,z51,z52,z53,z54,z55,z56,z57,z58,z59,z60,z61,z62,z63,z64,z65,z66,z67,z68,z69,z70,z71,z72,z73,z74,z75,z76,z77,z78,z79,z80,z81,z82,z83,z84,z85,z86,z87,z88,z89,z90,z91,z92,z93,z94,z95,z96,z97,z98,z99,z100,z101,z102,z103]) :
    LM Try.prog Post (sitI l st n0) (G ((bk 14 .normal).at ⟨ts,[]⟩ [.code playB4]) (c :: cf)) w1:=by
  obtain ⟨z3,z5,z8,z9,z10,z11,z12,z13,z14,z15,z16,z17,z18,z19,z20,z21,z22,z23,z24,z25,z26,z27,z28,z29,z30,z31,z32,z33,z34,z35,z36,z37,z38,z39,z40,z41,z42,z43,z44,z45,z46,z47,z48,z49,z50,z51,z52,z53,z54,z55,z56,z57,z58,z59,z60,z61,z62,z63,z64,z65,z66,z67,z68,z69,z70,z71,z72,z73,z74,z75,z76,z77,z78,z79,z80,z81,z82,z83,z84,z85,z86,z87,z88,z89,z90,z91,z92,z93,z94,z95,z96,z97,z98,z99,z100,z101,z102,z103,rfl⟩:=hts
  have O:=ownM Try.prog Post
  have T:=O.toCtl
  have hq:(Try.prog.funcs[14]?).any (·.norace)=false:=by rw [Try.func14];rfl
  have hh:=hidesI (n:=n0) hst
  have hlH:∀ k,w.heap.size≤k→k ∉ l:=fun k h1 h2=>by have:=ok.lt h2;omega
  have hl1:=G01.size
  have hrl:=(Array.getElem?_eq_some_iff.1 hrz1).1
  simp only [playB4,seqR,Option.getD_some,Try.f14]
  refine laW ?_
  refine l_new O hh (by simp) G01.ok rfl (by rfl) (by kernel_rfl) (fun k=>.slice (some ⟨k,0,none⟩) cells.length cells.length) (c:=mkRow (.pointer none) cells.length) (t:=72) (fun v=>run_mk Try.underlying57 info_ptr rfl (by omega) (by omega) rfl (by simp [Act.eval]) (by simp [Act.eval]) v) (fun w2 hrow2 G2 hl2=>?_)
  walk_nrm
  refine laW ?_
  refine l_new O hh (by simp) G2.ok rfl (by rfl) (by kernel_rfl) (fun n=>.pointer (some (c0 n 0))) (c:=#[.slice none 0 0]) (t:=57) (fun v=>by go_simp) (fun w3 hrv3 G3 hl3=>?_)
  walk_nrm
  refine laW ?_
  have hG2s:=G2.size
  have hG3s:=G3.size
  refine l_storeM O hh (by simp) G3.ok rfl (by rfl) (by kernel_rfl) hrv3 (hlH _ (by omega)) (off:=0) (y:=.slice (some ⟨w1.heap.size,0,none⟩) cells.length cells.length) (fun v hv=>?_) (fun w4 hrv4 G4 hs4=>?_)
  · have hcell:v.cell? ⟨w2.heap.size,0,none⟩=some (.slice none 0 0):=cell_of_heap hv rfl
    have hfr:v.frozen? ⟨w2.heap.size,0,none⟩=false:=frozen_of_heap hv
    clear hv hrv3 hrow2 hsb1 hrz1
    go_simp
  walk_nrm
  refine laW ?_
  have G14:Grow st (fun k=>k∈l) (fun _=>False) w1 w4:=(G2.transN hst G3 (fun _ h=>h) (fun _ _ h=>h)).transN hst G4 (fun _ h=>h) (fun k hk h=>by omega)
  have hrow4:w4.heap[w1.heap.size]?=some (.cells (mkRow (.pointer none) cells.length) 72 (0,0)):=(G4.low _ (by omega) (hlH _ (by omega)) (by omega)).trans ((G3.low _ hl2 (hlH _ (by omega)) id).trans hrow2)
  have hi4:=hi.keptH hiF fun k h1 h2=>(G14.low k (by omega) h2 id).trans (G01.low k h1 h2 id)
  have hrzl:=(Array.getElem?_eq_some_iff.1 hrz1).1
  have hrowN:w1.heap.size ∉ l:=hlH _ (by omega)
  have hrvN:w2.heap.size ∉ l:=hlH _ (by omega)
  have hG14s:=G14.size
  have hs14:w2.heap.size < w4.heap.size:=(Array.getElem?_eq_some_iff.1 hrv4).1
  have hibb:∀ b off,ca=some ⟨b,off,none⟩→cells≠[]→b≠w1.heap.size:=fun b off e hne=>by
    obtain ⟨b',off',e',h1⟩:=hi 0 (List.length_pos_iff.2 hne)
    rw [e] at e'
    cases e'
    obtain ⟨_,_,_,h5,_⟩:=cell_some h1
    have:=(Array.getElem?_eq_some_iff.1 h5).1
    simp only at this
    omega
  have key0:=fun v (M:Masked (fun k=>k∈l) 0 v w4)=>play_blk2 (n:=ss.length) (cc:=cc) (scap:=scap) (M:=ps.length) (pcap:=pcap) (so:=so) (po:=po) (sb:=sb) (rz:=rz) (rbv:=w2.heap.size) (rowB:=w1.heap.size) (cells:=cells) rfl hm64 v (M.ints hi4 hiF) hibb (M.seen hrvN hrv4) (M.seen hrowN hrow4)
  simp only [playBlk2,seqL,seqR,Option.getD_some,Try.f14] at key0
  refine l_piece O (Y:=dynA) closedA hh ⟨_,Try.func14⟩ (by kernel_rfl) (slots_nil rfl _) G4.ok (R:=fun v a u=>RowAt v w1.heap.size v.heap.size cells.length cells.length cells u∧∃ z3 z5 z8 z9 z10 z11 z12 z13 z14 z16 z17 z18 z19 z20 z21 z22 z23 z24 z25 z26 z27 z28 z29 z30 z31 z32 z33 z34 z35 z36 z37 z38 z39 z40 z41 z42 z43 z44 z45 z46 z47 z48 z49 z50 z51 z52 z53 z54 z55 z56 z57 z58 z59 z60 z61 z62 z63 z64 z65 z66 z67 z68 z69 z70 z71 z72 z73 z74 z75 z76 z77 z78 z79 z80 z81 z82 z83 z84 z85 z86 z87 z88 z89 z90 z91 z92 z93 z94 z95 z96 z97 z98 z99 z100 z101 z102 z103:Value,a.tmps=#[.slice ca cells.length cc,.slice so ss.length scap,.slice po ps.length pcap,z3,.pointer (some (c0 sb 0)),z5,.pointer (some (c0 rz 0)),.int .i64 0,z8,z9,z10,z11,z12,z13,z14,.pointer (some (c0 (w2.heap.size) 0)),z16,z17,z18,z19,z20,z21,z22,z23,z24,z25,z26,z27,z28,z29,z30,z31,z32,z33,z34,z35,z36,z37,z38,z39,z40,z41,z42,z43,z44,z45,z46,z47,z48,z49,z50,z51,z52,z53,z54,z55,z56,z57,z58,z59,z60,z61,z62,z63,z64,z65,z66,z67,z68,z69,z70,z71,z72,z73,z74,z75,z76,z77,z78,z79,z80,z81,z82,z83,z84,z85,z86,z87,z88,z89,z90,z91,z92,z93,z94,z95,z96,z97,z98,z99,z100,z101,z102,z103]) (fun v M=>Code.wp_mono (fun e a u hq=>?_) (key0 v M _ _ _ _ _ _ _ _ _ _ _ _ _ _ _ _ _ _ _ _ _ _ _ _ _ _ _ _ _ _ _ _ _ _ _ _ _ _ _ _ _ _ _ _ _ _ _ _ _ _ _ _ _ _ _ _ _ _ _ _ _ _ _ _ _ _ _ _ _ _ _ _ _ _ _ _ _ _ _ _ _ _ _ _ _ _ _ _ _ _ _ _ _ _)) (fun v ts v' w5 M hR Al=>?_)
  · obtain ⟨h1,h2,h3,h4⟩:=hq
    exact ⟨h1,h2,h3,h4⟩
  clear key0
  obtain ⟨hra,e⟩:=hR
  have hsz:v.heap.size=w4.heap.size:=M.size
  have G5:Grow st (fun k=>k∈l) (fun k=>k=w1.heap.size) w4 w5:=Al.grow M fun k hk hne=>hra.low k hk hne
  have hlow45:∀ k,k < w4.heap.size→k ∉ l→k≠w1.heap.size→w5.heap[k]?=w4.heap[k]?:=fun k h1 h2 h3=>G5.low k h1 h2 h3
  have hlow15:∀ k,k < w1.heap.size→k ∉ l→w5.heap[k]?=w1.heap[k]?:=fun k h1 h2=>(hlow45 k (by omega) h2 (by omega)).trans (G14.low k h1 h2 id)
  obtain ⟨ca5,hca5,_,hptr5⟩:=hra.row
  have hsz5:v'.heap.size=w5.heap.size:=Al.masked.size
  have hhs:=hra.size
  have key:=H w5 w1.heap.size w2.heap.size w4.heap.size ⟨fun k h1 h2=>(hlow15 k (by omega) h2).trans (G01.low k h1 h2 id),⟨hsb.1,hsb.2.1,hrzl,hl2,hs14,by omega⟩,G5.ok,(hlow15 _ (by omega) hsb.2.2.1).trans hsb1,(hlow15 _ hrzl hsb.2.2.2).trans hrz1,(hlow45 _ hs14 hrvN (by omega)).trans hrv4,⟨ca5,Al.masked.cells hca5,fun i hi=>by rw [hptr5 i hi,hsz]⟩,fun i h=>by have:=Al.masked.cells (hra.nums i h h);rw [hsz] at this;exact this,fun h=>zero_grow (zero_grow (zero_grow h G01 hst) G14 hst) G5 hst⟩ ts e
  simp only [playB6,seqR,Option.getD_some,Try.f14] at key
  exact key
end
end Go.Proofs.Ytndppafplgilbaa
namespace Go.Proofs.Ytndppafplgilbaa
open Go Go.Conc Go.RowKit
open Go.ConcN (sumTo upd sumTo_upd upd_ne upd_same)
theorem info_ints:(Try.prog.info? 22).map (fun i=>(i.zero,i.size,i.bytes))=some (some (.slice none 0 0),1,24):=by kernel_rfl
noncomputable def playB7:Code:=seqR (seqR (seqR (seqR (seqR (seqR (seqR (Try.f14.body.getD .skip)))))))
structure Made (st:Addr) (w:World) (l:List Nat) (m n:Nat) (cells:List Int) (ssv:Value) (sb rz rowB rbv nb0 ansB pb:Nat) (w':World):Prop where
  low:∀ k,k < w.heap.size→k ∉ l→w'.heap[k]?=w.heap[k]?
  ord:w.heap.size≤sb∧sb < rz∧rz < rowB∧rowB < rbv∧rbv < nb0∧nb0 + m≤ansB∧ansB < pb∧pb < w'.heap.size
  ok:HidOk (fun k=>k∈l) w'
  sb_:w'.heap[sb]?=some (.cells #[ssv] 42 (0,0))
  rz_:w'.heap[rz]?=some (.cells zeroPlayed 38 (0,0))
  rv:w'.heap[rbv]?=some (.cells #[.slice (some ⟨rowB,0,none⟩) m m] 57 (0,0))
  row:∃ c:Array Value,w'.heap[rowB]?=some (.cells c 72 (0,0))∧∀ i,i < m→c[i]?=some (.pointer (some ⟨nb0 + i,0,none⟩))
  nums:∀ (i:Nat) (h:i < cells.length),NumC (nb0 + i) cells[i] w'
  ans:w'.heap[ansB]?=some (.cells (mkRow (.slice none 0 0) n) 22 (0,0))
  p:w'.heap[pb]?=some (.cells #[.slice none 0 0,.slice none 0 0,.slice none 0 0,.slice (some ⟨ansB,0,none⟩) n n,.slice none 0 0] 38 (0,0))
  old:w.cell? st=some (.int .u64 0)→w'.cell? st=some (.int .u64 0)
section
variable {Post:Value→World→Prop}
set_option maxRecDepth 100000 in
set_option maxHeartbeats 16000000 in
theorem play_b2 {c:Frame} {cf:List Frame} {l:List Nat} {st:Addr} {n0 cc scap pcap sb rz rowB rbv nb0:Nat} {ca so po:Option Addr} {cells:List Int} {ss:List (List A4)} {ps:List Int} {w w1:World} (hst:st.spot=none→st.block∈l) (ok:HidOk (fun k=>k∈l) w) (hn64:ss.length≤64)
    (X:Half st w l cells.length cells (.slice so ss.length scap) sb rz rowB rbv nb0 w1)
    (H:∀ (w':World) (ansB pb:Nat),Made st w l cells.length ss.length cells (.slice so ss.length scap) sb rz rowB rbv nb0 ansB pb w'→∀ ts:Array Value,(∃ z3 z5 z8 z9 z10 z11 z12 z13 z14 z16 z17 z19 z20 z21 z22 z23 z24 z25 z26 z27 z28 z29 z30 z31 z32 z33 z34 z35 z36 z37 z38 z39 z40 z41 z42 z43 z44 z45 z46 z47 z48 z49 z50 z51 z52 z53 z54 z55 z56 z57 z58 z59 z60 z61 z62 z63 z64 z65 z66 z67 z68 z69 z70 z71 z72 z73 z74 z75 z76 z77 z78 z79 z80 z81 z82 z83 z84 z85 z86 z87 z88 z89 z90 z91 z92 z93 z94 z95 z96 z97 z98 z99 z100 z101 z102 z103:Value,ts=#[.slice ca cells.length cc,.slice so ss.length scap,.slice po ps.length pcap,z3,.pointer (some (c0 sb 0)),z5,.pointer (some (c0 rz 0)),.int .i64 0,z8,z9,z10,z11,z12,z13,z14,.pointer (some (c0 rbv 0)),z16,z17,.pointer (some (c0 pb 0)),z19,z20,z21,z22,z23,z24,z25,z26,z27,z28,z29,z30,z31,z32,z33,z34,z35,z36,z37,z38,z39,z40,z41,z42,z43,z44,z45,z46,z47,z48,z49,z50,z51,z52,z53,z54,z55,z56,z57,z58,z59,z60,z61,z62,z63,z64,z65,z66,z67,z68,z69,z70,z71,z72,z73,z74,z75,z76,z77,z78,z79,z80,z81,z82,z83,z84,z85,z86,z87,z88,z89,z90,z91,z92,z93,z94,z95,z96,z97,z98,z99,z100,z101,z102,z103])→LM Try.prog Post (sitI l st n0) (G ((bk 14 .normal).at ⟨ts,[]⟩ [.code playB7]) (c :: cf)) w')
    {ts:Array Value} (hts:∃ z3 z5 z8 z9 z10 z11 z12 z13 z14 z16 z17 z18 z19 z20 z21 z22 z23 z24 z25 z26 z27 z28 z29 z30 z31 z32 z33 z34 z35 z36 z37 z38 z39 z40 z41 z42 z43 z44 z45 z46 z47 z48 z49 z50 z51 z52 z53 z54 z55 z56 z57 z58 z59 z60 z61 z62 z63 z64 z65 z66 z67 z68 z69 z70 z71 z72 z73 z74 z75 z76 z77 z78 z79 z80 z81 z82 z83 z84 z85 z86 z87 z88 z89 z90 z91 z92 z93 z94 z95 z96 z97 z98 z99 z100 z101 z102 z103:Value,ts=#[.slice ca cells.length cc,.slice so ss.length scap,.slice po ps.length pcap,z3,.pointer (some (c0 sb 0)),z5,.pointer (some (c0 rz 0)),.int .i64 0,z8,z9,z10,z11,z12,z13,z14,.pointer (some (c0 rbv 0)),z16,z17,z18,z19,z20,z21,z22,z23,z24,z25,z26,z27,z28,z29,z30,z31,z32,z33,z34,z35,z36,z37,z38,z39,z40,z41,z42,z43,z44,z45,z46,z47,z48,z49,z50,z51,z52,z53,z54,z55,z56,z57,z58,z59,z60,z61,z62,z63,z64,z65,z66,z67,z68,z69,z70,z71,z72,z73,z74,z75,z76,z77,z78,z79,z80,z81,z82,z83,z84,z85,z86,z87,z88,z89,z90,z91,z92,z93,z94,z95,z96,z97,z98,z99,z100,z101,z102,z103]) :
    LM Try.prog Post (sitI l st n0) (G ((bk 14 .normal).at ⟨ts,[]⟩ [.code playB6]) (c :: cf)) w1:=by
  obtain ⟨z3,z5,z8,z9,z10,z11,z12,z13,z14,z16,z17,z18,z19,z20,z21,z22,z23,z24,z25,z26,z27,z28,z29,z30,z31,z32,z33,z34,z35,z36,z37,z38,z39,z40,z41,z42,z43,z44,z45,z46,z47,z48,z49,z50,z51,z52,z53,z54,z55,z56,z57,z58,z59,z60,z61,z62,z63,z64,z65,z66,z67,z68,z69,z70,z71,z72,z73,z74,z75,z76,z77,z78,z79,z80,z81,z82,z83,z84,z85,z86,z87,z88,z89,z90,z91,z92,z93,z94,z95,z96,z97,z98,z99,z100,z101,z102,z103,rfl⟩:=hts
  have O:=ownM Try.prog Post
  have T:=O.toCtl
  have hq:(Try.prog.funcs[14]?).any (·.norace)=false:=by rw [Try.func14];rfl
  have hh:=hidesI (n:=n0) hst
  have hlH:∀ k,w.heap.size≤k→k ∉ l:=fun k h1 h2=>by have:=ok.lt h2;omega
  obtain ⟨o1,o2,o3,o4,o5,o6⟩:=X.ord
  have hcs:w1.cell? ⟨sb,0,none⟩=some (.slice so ss.length scap):=cell_of_heap X.sb_ rfl
  have hsbH:sb ∉ l:=hlH _ o1
  have Xo:=X.ok
  have Xl:=Lib.hid X
  clear X
  simp only [playB6,seqR,Option.getD_some,Try.f14]
  refine laW ?_
  (refine l_loadH O hh (by simp) rfl (by rfl) hcs hsbH (fun w₁ hc₁=>⟨by go_simp,by simp [listed,go_sem,hc₁];exact seen_cell hq _ _ _⟩) ?_;walk_nrm)
  refine laW ?_
  refine l_new O hh (by simp) Xo rfl (by rfl) (by kernel_rfl) (fun k=>.slice (some ⟨k,0,none⟩) ss.length ss.length) (c:=mkRow (.slice none 0 0) ss.length) (t:=22) (fun v=>run_mk Try.underlying30 info_ints rfl (by omega) (by omega) rfl (by simp [Act.eval]) (by simp [Act.eval]) v) (fun w2 han2 G2 hl2=>?_)
  walk_nrm
  refine laW ?_
  refine l_new O hh (by simp) G2.ok rfl (by rfl) (by kernel_rfl) (fun n=>.pointer (some (c0 n 0))) (c:=zeroPlayed) (t:=38) (fun v=>by clear han2;go_simp) (fun w3 hp3 G3 hl3=>?_)
  walk_nrm
  refine laW ?_
  have hG2s:=G2.size
  have hG3s:=G3.size
  refine l_storeRow O hh (cells:=#[.slice none 0 0,.slice none 0 0,.slice none 0 0,.slice (some ⟨w1.heap.size,0,none⟩) ss.length ss.length,.slice none 0 0]) (by simp) G3.ok rfl (by rfl) rfl (by simp [Act.eval]) (by simp [Act.eval]) hp3 (hlH _ (by omega)) (by kernel_rfl) rfl (by simp [Value.oneCell']) (fun w4 hp4 G4 hs4=>?_)
  walk_nrm
  (refine l_end T ?_)
  have X:=Xl.out
  have hlow13:∀ k,k < w1.heap.size→k ∉ l→w3.heap[k]?=w1.heap[k]?:=fun k h1 h2=>(G3.low k (by omega) h2 id).trans (G2.low k h1 h2 id)
  have hlow14:∀ k,k < w1.heap.size→k ∉ l→w4.heap[k]?=w1.heap[k]?:=fun k h1 h2=>(G4.low k (by omega) h2 (by omega)).trans (hlow13 k h1 h2)
  obtain ⟨cr,hcr,hcp⟩:=X.row
  have key:=H w4 w1.heap.size w2.heap.size ⟨fun k h1 h2=>(hlow14 k (by omega) h2).trans (X.low k h1 h2),⟨o1,o2,o3,o4,o5,o6,hl2,by omega⟩,G4.ok,(hlow14 _ (by omega) hsbH).trans X.sb_,(hlow14 _ (by omega) (hlH _ (by omega))).trans X.rz_,(hlow14 _ (by omega) (hlH _ (by omega))).trans X.rv,⟨cr,(hlow14 _ (by omega) (hlH _ (by omega))).trans hcr,hcp⟩,fun i h=>(hlow14 _ (by omega) (hlH _ (by omega))).trans (X.nums i h),(G4.low _ (by omega) (hlH _ (by omega)) (by omega)).trans ((G3.low _ hl2 (hlH _ (by omega)) id).trans han2),hp4,fun h=>zero_grow (zero_grow (zero_grow (X.old h) G2 hst) G3 hst) G4 hst⟩
  simp only [playB7,seqR,Option.getD_some,Try.f14] at key
  exact key _ ⟨_,_,_,_,_,_,_,_,_,_,_,_,_,_,_,_,_,_,_,_,_,_,_,_,_,_,_,_,_,_,_,_,_,_,_,_,_,_,_,_,_,_,_,_,_,_,_,_,_,_,_,_,_,_,_,_,_,_,_,_,_,_,_,_,_,_,_,_,_,_,_,_,_,_,_,_,_,_,_,_,_,_,_,_,_,_,_,_,_,_,_,_,_,_,_,_,rfl⟩
end
end Go.Proofs.Ytndppafplgilbaa
namespace Go.Proofs.Ytndppafplgilbaa
open Go Go.Conc Go.RowKit
open Go.ConcN (sumTo upd sumTo_upd upd_ne upd_same)
def ScrBlk (so:Option Addr) (ao:Nat→Option Addr) (ss:List (List A4)) (x:Nat):Prop:=(∃ off,so=some ⟨x,off,none⟩)∨∃ i,∃ h:i < ss.length,ss[i]≠[]∧∃ off,ao i=some ⟨x,off,none⟩
section
variable {st:Addr} {w w1:World} {so:Option Addr} {ao:Nat→Option Addr} {acap:Nat→Nat} {ss:List (List A4)} {l:List Nat} {cells:List Int} {ssv:Value} {sb rz rowB rbv nb0 ansB pb scap:Nat}
theorem ScrBlk.lt (hs:ScriptsIn w so ao acap ss) (hn:1≤ss.length) {x:Nat} (h:ScrBlk so ao ss x):x < w.heap.size:=by
  rcases h with ⟨off,e⟩ | ⟨i,hi,hne,off,e⟩
  · obtain ⟨b,o,e',h1⟩:=hs.at_ 0 hn
    rw [e] at e'
    cases e'
    exact World.block_lt_of_cell? w _ h1
  · obtain ⟨b,o,e',h1,_⟩:=hs.acts i hi 0 (List.length_pos_iff.2 hne)
    rw [e] at e'
    cases e'
    exact World.block_lt_of_cell? w _ h1
theorem ScrBlk.free {H:Nat→Prop} (hF:ScrFree H so ao ss) (hn:1≤ss.length) {x:Nat} (h:ScrBlk so ao ss x):¬ H x:=by
  rcases h with ⟨off,e⟩ | ⟨i,hi,hne,off,e⟩
  · exact hF.1 x off e (List.length_pos_iff.1 hn)
  · exact hF.2 i hi x off e hne
def playPL (so:Option Addr) (ao:Nat→Option Addr) (ss:List (List A4)) (m nb0 ansB sb pb rbv rowB:Nat) (w0:World):PL where
  scripts:=ss
  m:=m
  nb j:=nb0 + j
  ansB:=ansB
  fix x:=x=sb∨x=pb∨x=rbv∨x=rowB∨ScrBlk so ao ss x
  w0:=w0
def play0 (cells:List Int):PG:=⟨cells,fun _=>none,fun _=>[],fun _=>.slice none 0 0⟩
theorem scriptsErr_mem {m:Int}:∀ {ss:List (List A4)},scriptsErr m ss=0→∀ s∈ss,checkNums m s=0
  | [],_,_,h=>by cases h
  | a :: r,e,s,h=>by
    unfold scriptsErr at e
    by_cases c:checkNums m a=0
    · rw [if_pos c] at e
      rcases List.mem_cons.1 h with rfl | h
      · exact c
      · exact scriptsErr_mem e s h
    · rw [if_neg c] at e;exact absurd e c
theorem play_ok (X:Made st w l cells.length ss.length cells ssv sb rz rowB rbv nb0 ansB pb w1) (hs:ScriptsIn w so ao acap ss) (hn1:1≤ss.length) (hlen:∀ s∈ss,s.length≤1000) (herr:scriptsErr cells.length ss=0):(playPL so ao ss cells.length nb0 ansB sb pb rbv rowB w1).Ok:=by
  obtain ⟨o1,o2,o3,o4,o5,o6,o7,o8⟩:=X.ord
  refine ⟨fun x hx=>?_,fun hx=>?_,fun j hj=>⟨fun hx=>?_,?_,fun j' hj' e=>?_⟩,hlen,fun s hs' a ha=>?_⟩
  · rcases hx with rfl | rfl | rfl | rfl | h
    · show _ < w1.heap.size;omega
    · exact o8
    · show _ < w1.heap.size;omega
    · show _ < w1.heap.size;omega
    · have:=h.lt hs hn1;show _ < w1.heap.size;omega
  · rcases hx with h | h | h | h | h
    · replace h:ansB=sb:=h;omega
    · replace h:ansB=pb:=h;omega
    · replace h:ansB=rbv:=h;omega
    · replace h:ansB=rowB:=h;omega
    · have:ansB < w.heap.size:=h.lt hs hn1;omega
  · replace hj:j < cells.length:=hj
    rcases hx with h | h | h | h | h
    · replace h:nb0 + j=sb:=h;omega
    · replace h:nb0 + j=pb:=h;omega
    · replace h:nb0 + j=rbv:=h;omega
    · replace h:nb0 + j=rowB:=h;omega
    · have:nb0 + j < w.heap.size:=h.lt hs hn1;omega
  · replace hj:j < cells.length:=hj
    show nb0 + j≠ansB;omega
  · replace e:nb0 + j'=nb0 + j:=e;omega
  · obtain ⟨k1,k2,k3,k4⟩:=checkNums_ok _ s (scriptsErr_mem herr s hs') a ha
    exact ⟨⟨k1,k2⟩,k3,k4⟩
theorem avArr_nil (n:Nat):avArr n (fun _=>.slice none 0 0)=mkRow (.slice none 0 0) n:=by
  apply Array.ext_getElem?
  intro i
  by_cases h:i < n
  · rw [avArr_at h,mkRow_get _ _ _ h]
  · rw [Array.getElem?_eq_none (by rw [avArr_size];omega),Array.getElem?_eq_none (by rw [mkRow_size];omega)]
theorem play_M (X:Made st w l cells.length ss.length cells ssv sb rz rowB rbv nb0 ansB pb w1):PlayM (playPL so ao ss cells.length nb0 ansB sb pb rbv rowB w1) (play0 cells) w1:=by
  refine ⟨fun _ _=>rfl,fun j hj=>?_,rfl,?_,fun i hi=>?_,fun i hi g hg=>?_,fun i hi=>?_⟩
  · have:=X.nums j hj
    show NumC (nb0 + j) (cells.getD j 0) w1
    rw [List.getD_eq_getElem?_getD,List.getElem?_eq_getElem hj]
    exact this
  · show w1.heap[ansB]?=some (.cells (avArr ss.length (fun _=>.slice none 0 0)) 22 (0,0))
    rw [avArr_nil]
    exact X.ans
  · exact ⟨rfl,.inl ⟨rfl,rfl⟩⟩
  · cases hg
  · show 0 + 1000≤1000;omega
theorem play_lay (X:Made st w l cells.length ss.length cells (.slice so ss.length scap) sb rz rowB rbv nb0 ansB pb w1) (hs:ScriptsIn w so ao acap ss) (hF:ScrFree (fun k=>k∈l) so ao ss) (hn1:1≤ss.length) :
    ∃ sblk soff,so=some ⟨sblk,soff,none⟩∧PlayLay (playPL so ao ss cells.length nb0 ansB sb pb rbv rowB w1) sb pb rbv rowB sblk soff scap ao acap:=by
  have hs1:=hs.kept hF X.low
  obtain ⟨sblk,soff,e,_⟩:=hs.at_ 0 hn1
  obtain ⟨cr,hcr,hcp⟩:=X.row
  have hscr:∀ i (hi:i < ss.length),(playPL so ao ss cells.length nb0 ansB sb pb rbv rowB w1).script i=ss[i]:=fun i hi=>by
    show ss.getD i []=_
    rw [List.getD_eq_getElem?_getD,List.getElem?_eq_getElem hi];rfl
  refine ⟨sblk,soff,e,.inl rfl,.inr (.inl rfl),.inr (.inr (.inl rfl)),.inr (.inr (.inr (.inl rfl))),.inr (.inr (.inr (.inr (.inl ⟨soff,e⟩)))),?_,fun i hi=>?_,fun i hi=>?_,fun i hi b off ea hne=>?_,?_,?_,fun j hj=>?_⟩
  · rw [← e];exact cell_of_heap X.sb_ rfl
  · rw [hscr i hi]
    obtain ⟨b,o,e',h1⟩:=hs1.at_ i hi
    rw [e] at e'
    cases e'
    exact h1
  · rw [hscr i hi]
    exact hs1.acts i hi
  · rw [hscr i hi] at hne
    exact .inr (.inr (.inr (.inr (.inr ⟨i,hi,hne,off,ea⟩))))
  · exact cell_of_heap X.p rfl
  · exact cell_of_heap X.rv rfl
  · exact cell_of_heap hcr (hcp j hj)
abbrev playKeep (L:PL) (l:List Nat) (cells:List Int) (w1:World) (x:Nat):Prop:=x < w1.heap.size∧x ∉ l∧¬ playFoot L (play0 cells) x
theorem foot0 {L:PL} {x:Nat} (h:playFoot L (play0 cells) x):L.fix x∨x=L.ansB∨∃ j,j < L.m∧x=L.nb j:=by
  rcases h with h | h | h | ⟨i,_,h⟩
  · exact .inl h
  · exact .inr (.inl h)
  · exact .inr (.inr h)
  · cases h
theorem play_pre {n0:Nat} (X:Made st w l cells.length ss.length cells ssv sb rz rowB rbv nb0 ansB pb w1) (ok:HidOk (fun k=>k∈l) w) (hF:ScrFree (fun k=>k∈l) so ao ss) (hn1:1≤ss.length)
    (okL:(playPL so ao ss cells.length nb0 ansB sb pb rbv rowB w1).Ok) (hst:st.spot=none→st.block∈l) (old:st.spot≠none∨w.cell? st=some (.int .u64 0)) (pos:0 < n0) :
    Pre (PlayCli (playPL so ao ss cells.length nb0 ansB sb pb rbv rowB w1) okL) (play0 cells) (playKeep (playPL so ao ss cells.length nb0 ansB sb pb rbv rowB w1) l cells w1) l st n0 w1:=by
  obtain ⟨o1,o2,o3,o4,o5,o6,o7,o8⟩:=X.ord
  refine ⟨play_M X,X.ok,fun x hx hf=>?_,fun x hx=>⟨hx.2.2,hx.2.1,hx.1⟩,hst,old.imp id X.old,pos⟩
  have hlt:=ok.lt hx
  rcases foot0 hf with (h | h | h | h | h) | h | ⟨j,hj,h⟩
  · replace h:x=sb:=h;omega
  · replace h:x=pb:=h;omega
  · replace h:x=rbv:=h;omega
  · replace h:x=rowB:=h;omega
  · exact h.free hF hn1 hx
  · replace h:x=ansB:=h;omega
  · replace h:x=nb0 + j:=h;omega
theorem play_upto {L:PL} {okL:L.Ok}:∀ {i:Nat} {Γ':PG},(PlayCli L okL).Upto (play0 cells) i Γ'→Γ'={ play0 cells with pos:=fun j=>if j < i then some (L.script j) else none }
  | 0,Γ',h=>by
    replace h:Γ'=play0 cells:=h
    subst h
    simp [play0]
  | i + 1,Γ',⟨Γ,h,nx⟩=>by
    have e:=play_upto h
    subst e
    replace nx:playNext L i _ Γ':=nx
    unfold playNext at nx
    simp only [Nat.lt_irrefl,if_false] at nx
    subst nx
    simp only [play0,PG.mk.injEq,true_and,and_true]
    funext j
    by_cases e:j=i
    · subst e;rw [upd_same,if_pos (Nat.lt_succ_self _)]
    · rw [upd_ne _ _ e]
      by_cases c:j < i
      · rw [if_pos c,if_pos (by omega)]
      · rw [if_neg c,if_neg (by omega)]
end
end Go.Proofs.Ytndppafplgilbaa
namespace Go.Proofs.Ytndppafplgilbaa
open Go Go.Conc Go.RowKit
open Go.ConcN (sumTo upd sumTo_upd upd_ne upd_same)
noncomputable def playB8:Code:=seqR (seqR (seqR (seqR (seqR (seqR (seqR (seqR (Try.f14.body.getD .skip))))))))
structure Ran (L:PL) (okL:L.Ok) (cells:List Int) (l:List Nat) (w1:World) (gb tB:Nat) (Γ2:PG) (steps:List Stp) (stv ev pv:Value) (w:World):Prop where
  hid:HidOk (fun k=>k∈gb :: l) w
  M:PlayM L Γ2 w
  st:w.ownsRow 0 stepT 3 stv steps.length (stepsV steps)
  ev_:w.ownsRow 0 boolT 1 ev L.n (endsV (PlayCli L okL) Γ2 L.n)
  pv_:w.ownsRow 0 boolT 1 pv L.n (pansV (PlayCli L okL) Γ2 L.n)
  ap:∀ g,ev.ownBlock=some g→pv.ownBlock≠some g
  own:∀ g,stv.ownBlock=some g∨ev.ownBlock=some g∨pv.ownBlock=some g→w1.heap.size≤g∧g ∉ gb :: l∧¬ playFoot L Γ2 g∧g≠tB
  kept:∀ x,playKeep L l cells w1 x→w.heap[x]?=w1.heap[x]?
  kpfoot:∀ x,playKeep L l cells w1 x→¬ playFoot L Γ2 x
  lfoot:∀ x,x∈gb :: l→¬ playFoot L Γ2 x
  size:w1.heap.size≤w.heap.size
  hgb:w1.heap.size≤gb
  cnt:w.cell? (c0 gb 1)=some (.int .u64 0)
  told:w.heap[tB]?=some (.cells #[stv,ev,pv] toldT (0,0))
  ht:w1.heap.size≤tB∧tB ∉ gb :: l∧¬ playFoot L Γ2 tB
section
variable {Post:Value→World→Prop}
set_option maxRecDepth 100000 in
set_option maxHeartbeats 16000000 in
theorem play_c {c:Frame} {cf:List Frame} {l:List Nat} {st:Addr} {n0 cc scap pcap sb rz rowB rbv nb0 ansB pb:Nat} {ca so po:Option Addr} {ao:Nat→Option Addr} {acap:Nat→Nat} {cells:List Int} {ss:List (List A4)} {ps:List Int} {w w1:World} (hst:st.spot=none→st.block∈l) (ok:HidOk (fun k=>k∈l) w)
    (old:st.spot≠none∨w.cell? st=some (.int .u64 0)) (pos:0 < n0) (hn1:1≤ss.length) (hn64:ss.length≤64) (hM6:ps.length≤1000000)
    (X:Made st w l cells.length ss.length cells (.slice so ss.length scap) sb rz rowB rbv nb0 ansB pb w1) (hs:ScriptsIn w so ao acap ss) (hsF:ScrFree (fun k=>k∈l) so ao ss)
    (okL:(playPL so ao ss cells.length nb0 ansB sb pb rbv rowB w1).Ok) (hps:NumsAt (playKeep (playPL so ao ss cells.length nb0 ansB sb pb rbv rowB w1) l cells w1) po ps w1)
    (H:∀ (gb tB:Nat) (Γ1 Γ2:PG) (steps:List Stp) (stv ev pv:Value) (w':World),(PlayCli _ okL).Upto (play0 cells) ss.length Γ1→(PlayCli _ okL).Runs ss.length Γ1 ps Γ2 steps→Ran _ okL cells l w1 gb tB Γ2 steps stv ev pv w'→∀ ts:Array Value,(∃ z3 z5 z8 z9 z10 z11 z12 z13 z14 z16 z17 z21 z22 z23 z24 z25 z26 z27 z28 z29 z30 z31 z32 z33 z34 z35 z36 z37 z38 z39 z40 z41 z42 z43 z44 z45 z46 z47 z48 z49 z50 z51 z52 z53 z54 z55 z56 z57 z58 z59 z60 z61 z62 z63 z64 z65 z66 z67 z68 z69 z70 z71 z72 z73 z74 z75 z76 z77 z78 z79 z80 z81 z82 z83 z84 z85 z86 z87 z88 z89 z90 z91 z92 z93 z94 z95 z96 z97 z98 z99 z100 z101 z102 z103:Value,ts=#[.slice ca cells.length cc,.slice so ss.length scap,.slice po ps.length pcap,z3,.pointer (some (c0 sb 0)),z5,.pointer (some (c0 rz 0)),.int .i64 0,z8,z9,z10,z11,z12,z13,z14,.pointer (some (c0 rbv 0)),z16,z17,.pointer (some (c0 pb 0)),.pointer (some (c0 tB 0)),.int .i64 0,z21,z22,z23,z24,z25,z26,z27,z28,z29,z30,z31,z32,z33,z34,z35,z36,z37,z38,z39,z40,z41,z42,z43,z44,z45,z46,z47,z48,z49,z50,z51,z52,z53,z54,z55,z56,z57,z58,z59,z60,z61,z62,z63,z64,z65,z66,z67,z68,z69,z70,z71,z72,z73,z74,z75,z76,z77,z78,z79,z80,z81,z82,z83,z84,z85,z86,z87,z88,z89,z90,z91,z92,z93,z94,z95,z96,z97,z98,z99,z100,z101,z102,z103])→LM Try.prog Post (sitI (gb :: l) (c0 gb 1) (n0 + ss.length)) (G ((bk 14 .normal).at ⟨ts,[]⟩ [.code playB8]) (c :: cf)) w')
    {ts:Array Value} (hts:∃ z3 z5 z8 z9 z10 z11 z12 z13 z14 z16 z17 z19 z20 z21 z22 z23 z24 z25 z26 z27 z28 z29 z30 z31 z32 z33 z34 z35 z36 z37 z38 z39 z40 z41 z42 z43 z44 z45 z46 z47 z48 z49 z50 z51 z52 z53 z54 z55 z56 z57 z58 z59 z60 z61 z62 z63 z64 z65 z66 z67 z68 z69 z70 z71 z72 z73 z74 z75 z76 z77 z78 z79 z80 z81 z82 z83 z84 z85 z86 z87 z88 z89 z90 z91 z92 z93 z94 z95 z96 z97 z98 z99 z100 z101 z102 z103:Value,ts=#[.slice ca cells.length cc,.slice so ss.length scap,.slice po ps.length pcap,z3,.pointer (some (c0 sb 0)),z5,.pointer (some (c0 rz 0)),.int .i64 0,z8,z9,z10,z11,z12,z13,z14,.pointer (some (c0 rbv 0)),z16,z17,.pointer (some (c0 pb 0)),z19,z20,z21,z22,z23,z24,z25,z26,z27,z28,z29,z30,z31,z32,z33,z34,z35,z36,z37,z38,z39,z40,z41,z42,z43,z44,z45,z46,z47,z48,z49,z50,z51,z52,z53,z54,z55,z56,z57,z58,z59,z60,z61,z62,z63,z64,z65,z66,z67,z68,z69,z70,z71,z72,z73,z74,z75,z76,z77,z78,z79,z80,z81,z82,z83,z84,z85,z86,z87,z88,z89,z90,z91,z92,z93,z94,z95,z96,z97,z98,z99,z100,z101,z102,z103]) :
    LM Try.prog Post (sitI l st n0) (G ((bk 14 .normal).at ⟨ts,[]⟩ [.code playB7]) (c :: cf)) w1:=by
  obtain ⟨z3,z5,z8,z9,z10,z11,z12,z13,z14,z16,z17,z19,z20,z21,z22,z23,z24,z25,z26,z27,z28,z29,z30,z31,z32,z33,z34,z35,z36,z37,z38,z39,z40,z41,z42,z43,z44,z45,z46,z47,z48,z49,z50,z51,z52,z53,z54,z55,z56,z57,z58,z59,z60,z61,z62,z63,z64,z65,z66,z67,z68,z69,z70,z71,z72,z73,z74,z75,z76,z77,z78,z79,z80,z81,z82,z83,z84,z85,z86,z87,z88,z89,z90,z91,z92,z93,z94,z95,z96,z97,z98,z99,z100,z101,z102,z103,rfl⟩:=hts
  have O:=ownM Try.prog Post
  have T:=O.toCtl
  have hq:(Try.prog.funcs[14]?).any (·.norace)=false:=by rw [Try.func14];rfl
  have hh:=hidesI (n:=n0) hst
  obtain ⟨o1,o2,o3,o4,o5,o6,o7,o8⟩:=X.ord
  have hcs:w1.cell? ⟨sb,0,none⟩=some (.slice so ss.length scap):=cell_of_heap X.sb_ rfl
  have hsbH:sb ∉ l:=fun h=>by have:=ok.lt h;omega
  have P:=play_pre X ok hsF hn1 okL hst old pos
  obtain ⟨sblk,soff,eso,Y⟩:=play_lay X hs hsF hn1
  have Xl:=Lib.hid X
  clear X
  simp only [playB7,seqR,Option.getD_some,Try.f14]
  refine laW ?_
  (refine l_loadH O hh (by simp) rfl (by rfl) hcs hsbH (fun w₁ hc₁=>⟨by go_simp,by simp [listed,go_sem,hc₁];exact seen_cell hq _ _ _⟩) ?_;walk_nrm)
  refine laW ?_
  (refine l_enter T (fn:=Try.f23) (c:=.skip) (g:=23) (xs:=#[.int .i64 ss.length,.slice po ps.length pcap,.func (.func 50) #[] #[.pointer (some (c0 sb 0)),.pointer (some (c0 pb 0)),.pointer (some (c0 rbv 0))]]) (by simp) rfl (by rfl) (fun w=>?_) (fun w=>?_) ?_;(focus go_simp);(focus (simp [go_sem,events_into Try.func23 (by kernel_rfl) (by kernel_rfl)])))
  refine run_calls (C:=PlayCli _ okL) P hn1 hn64 rfl hM6 hps (bfn:=Try.f50) ⟨Try.func50,by kernel_rfl,rfl⟩ (fun gb i k Γ' hi hup=>?_) _ _ trivial (by simp [bk,Frame.at]) rfl (fun v s' w2 hP=>?_) (fun ch s' w' hP=>by obtain ⟨_,_,_,_,_,_,_,h,_⟩:=hP;cases h)
  · have e:=play_upto hup
    subst e
    have key:=play_body (ok:=okL) (n0:=n0) (gb:=gb) (k:=k) (Post:=Post) Y (iw:=i) hi (.slice none 0 0)
    have e1:(PlayCli _ okL).own i { play0 cells with pos:=fun j=>if j < i then some ((playPL so ao ss cells.length nb0 ansB sb pb rbv rowB w1).script j) else none }=(none,.slice none 0 0):=by
      simp [PlayCli,play0]
    rw [e1]
    exact key
  obtain ⟨gb,tv,Γ1,Γ2,steps,hup,hrun,hv,hgb,rfl,hc0,A⟩:=hP
  obtain ⟨stv,ev,pv,rfl,hsr,her,hpr,hap,hown⟩:=A.tv
  cases hv
  rw [bk_finish rfl]
  walk_nrm
  refine laW ?_
  have hh2:=hidesI (l:=gb :: l) (st:=c0 gb 1) (n:=n0 + ss.length) (fun _=>List.mem_cons_self ..)
  refine l_new O hh2 (by simp) A.hid rfl (by rfl) (by kernel_rfl) (fun n=>.pointer (some (c0 n 0))) (c:=#[.slice none 0 0,.slice none 0 0,.slice none 0 0]) (t:=toldT) (fun v=>by go_simp) (fun w3 ht3 G3 hl3=>?_)
  walk_nrm
  have htl:w2.heap.size ∉ gb :: l:=fun h=>by have:=A.hid.lt h;omega
  refine l_storeRow O hh2 (cells:=#[stv,ev,pv]) (by simp) G3.ok rfl (by rfl) rfl (by simp [Act.eval]) (by simp [Act.eval]) ht3 htl (by kernel_rfl) rfl (by simp [ownsRow_one hsr,ownsRow_one her,ownsRow_one hpr]) (fun w4 ht4 G4 hs4=>?_)
  walk_nrm
  ((co_applyP (l_val T (by simp) rfl (by rfl) (fun w=>run_eq_of ?_) (fun w=>?_) ?_);rotate_left;(focus (intro K hK;go_simp;exact hK));(focus (solve | simp [go_sem])));walk_nrm)
  (refine l_end T ?_)
  have X:=Xl.out
  have hsz:=A.size
  have hG3:=G3.size
  have lowf:∀ x,x < w2.heap.size→x ∉ gb :: l→w4.heap[x]?=w2.heap[x]?:=fun x h1 h2=>(G4.low x (by omega) h2 (by omega)).trans (G3.low x h1 h2 id)
  have hc4:=zero_grow (zero_grow hc0 G3 (fun _=>List.mem_cons_self ..)) G4 (fun _=>List.mem_cons_self ..)
  have hfl:=(PlayCli _ okL).low _ _ A.M
  have hnew:∀ g,¬ playKeep (playPL so ao ss cells.length nb0 ansB sb pb rbv rowB w1) l cells w1 g→¬ playFoot (playPL so ao ss cells.length nb0 ansB sb pb rbv rowB w1) Γ2 g→g ∉ gb :: l→w1.heap.size≤g:=fun g h1 h2 h3=>by
    refine Nat.le_of_not_lt fun hlt=>h1 ⟨hlt,fun h=>h3 (List.mem_cons_of_mem _ h),fun hf=>?_⟩
    rcases foot0 hf with h | h | h
    · exact h2 (.inl h)
    · exact h2 (.inr (.inl h))
    · exact h2 (.inr (.inr (.inl h)))
  have htF:¬ playFoot (playPL so ao ss cells.length nb0 ansB sb pb rbv rowB w1) Γ2 w2.heap.size:=fun h=>by have:=hfl _ h;omega
  have key:=H gb w2.heap.size Γ1 Γ2 steps stv ev pv w4 hup hrun ⟨G4.ok,(PlayCli _ okL).stable _ _ _ A.M fun x hx=>lowf x (hfl x hx) (fun h=>A.lfoot x h hx),ownsRow_of (fun g hg=>lowf g (ownsRow_lt hsr g hg) (hown g (.inl hg)).2.2) hsr,ownsRow_of (fun g hg=>lowf g (ownsRow_lt her g hg) (hown g (.inr (.inl hg))).2.2) her,ownsRow_of (fun g hg=>lowf g (ownsRow_lt hpr g hg) (hown g (.inr (.inr hg))).2.2) hpr,hap,fun g hg=>⟨hnew g (hown g hg).1 (hown g hg).2.1 (hown g hg).2.2,(hown g hg).2.2,(hown g hg).2.1,fun e=>?_⟩,fun x hx=>(lowf x (Nat.lt_of_lt_of_le hx.1 hsz) ?_).trans (A.kept x hx),A.kpfoot,A.lfoot,by omega,hgb,hc4,ht4,hsz,htl,htF⟩
  · simp only [playB8,seqR,Option.getD_some,Try.f14] at key
    exact key _ ⟨_,_,_,_,_,_,_,_,_,_,_,_,_,_,_,_,_,_,_,_,_,_,_,_,_,_,_,_,_,_,_,_,_,_,_,_,_,_,_,_,_,_,_,_,_,_,_,_,_,_,_,_,_,_,_,_,_,_,_,_,_,_,_,_,_,_,_,_,_,_,_,_,_,_,_,_,_,_,_,_,_,_,_,_,_,_,_,_,_,_,_,_,_,_,rfl⟩
  · have h2:g < w2.heap.size:=by
      rcases hg with h | h | h
      · exact ownsRow_lt hsr g h
      · exact ownsRow_lt her g h
      · exact ownsRow_lt hpr g h
    omega
  · intro h
    rcases List.mem_cons.1 h with h | h
    · have:=hx.1;omega
    · exact hx.2.1 h
end
end Go.Proofs.Ytndppafplgilbaa
namespace Go.Proofs.Ytndppafplgilbaa
open Go.RowKit
theorem info_act:(Try.prog.info? 103).map (fun i=>(i.zero,i.size,i.bytes))=some (some (.agg #[.int .i64 0,.int .i64 0,.int .i64 0,.int .i64 0]),4,32):=by kernel_rfl
theorem info_acts:(Try.prog.info? 104).map (fun i=>(i.zero,i.size,i.bytes))=some (some (.slice none 0 0),1,24):=by kernel_rfl
def actCells (l:List A4):List Value:=l.flatMap fun x=>[.int .i64 x.k,.int .i64 x.at_,.int .i64 x.a,.int .i64 x.b]
theorem actCells_get (l:List A4):∀ (j:Nat) (h:j < l.length),(actCells l)[j * 4]?=some (.int .i64 l[j].k)∧(actCells l)[j * 4 + 1]?=some (.int .i64 l[j].at_)∧(actCells l)[j * 4 + 2]?=some (.int .i64 l[j].a)∧(actCells l)[j * 4 + 3]?=some (.int .i64 l[j].b):=by
  induction l with
  | nil=>intro j h;simp at h
  | cons x r ih =>
    intro j h
    cases j with
    | zero=>simp [actCells]
    | succ j =>
      have:=ih j (by simpa using h)
      have e:actCells (x :: r)=[.int .i64 x.k,.int .i64 x.at_,.int .i64 x.a,.int .i64 x.b] ++ actCells r:=rfl
      have e4:(j + 1) * 4=4 + j * 4:=by omega
      rw [e,e4]
      refine ⟨?_,?_,?_,?_⟩
      · rw [List.getElem?_append_right (by simp)];simpa using this.1
      · rw [List.getElem?_append_right (by simp;omega)];simp only [List.length_cons,List.length_nil,List.getElem_cons_succ];rw [show 4 + j * 4 + 1 - (0 + 1 + 1 + 1 + 1)=j * 4 + 1 by omega];exact this.2.1
      · rw [List.getElem?_append_right (by simp;omega)];simp only [List.length_cons,List.length_nil,List.getElem_cons_succ];rw [show 4 + j * 4 + 2 - (0 + 1 + 1 + 1 + 1)=j * 4 + 2 by omega];exact this.2.2.1
      · rw [List.getElem?_append_right (by simp;omega)];simp only [List.length_cons,List.length_nil,List.getElem_cons_succ];rw [show 4 + j * 4 + 3 - (0 + 1 + 1 + 1 + 1)=j * 4 + 3 by omega];exact this.2.2.2
theorem actCells_snoc (l:List A4) (x:A4):actCells (l ++ [x])=actCells l ++ [.int .i64 x.k,.int .i64 x.at_,.int .i64 x.a,.int .i64 x.b]:=by
  simp [actCells,List.flatMap_append]
theorem actsIn_row {w:World} {base n:Nat} {e:TypeId} {a:Option Addr} {c:Nat} {l:List A4} (h:w.ownsRow base e 4 (.slice a n c) n (actCells l)):ActsIn w a l:=by
  intro j hj
  rcases h.2 with ⟨hv,hn⟩ | ⟨g,cap,cur,hv,h1,h2,h3,h4,h5,h6⟩
  · have:=h.1
    rw [hn] at this
    have h0:=actCells_get l j hj
    rw [List.getElem?_eq_none (by omega)] at h0
    exact absurd h0.1 (by simp)
  · injection hv with ha hb hc
    subst ha
    have hcell:∀ i u,(actCells l)[i]?=some u→w.cell? ⟨g,i,none⟩=some u:=fun i u hu=>by
      have:=h.cells (g:=g) (by simp [Value.ownBlock]) i u hu
      have hadd:(⟨g,0,none⟩:Addr).add i=⟨g,i,none⟩:=by unfold Addr.add;split <;> simp_all
      rwa [hadd] at this
    have h0:=actCells_get l j hj
    refine ⟨g,0,rfl,?_⟩
    simp only [Nat.zero_add]
    exact ⟨hcell _ _ h0.1,hcell _ _ h0.2.1,hcell _ _ h0.2.2.1,hcell _ _ h0.2.2.2⟩
def toRow (f:Nat→Option Addr) (c:Nat→Nat) (ss:List (List A4)) (j:Nat):List Value:=(List.range j).map fun i=>.slice (f i) (ss.getD i []).length (c i)
theorem toRow_snoc (f:Nat→Option Addr) (c:Nat→Nat) (ss:List (List A4)) (j:Nat) (hj:j < ss.length) (x:Option Addr) (k:Nat):toRow (Go.ConcN.upd f j x) (Go.ConcN.upd c j k) ss (j + 1)=toRow f c ss j ++ [.slice x ss[j].length k]:=by
  unfold toRow
  rw [List.range_succ,List.map_append]
  congr 1
  · refine List.map_congr_left fun i hi=>?_
    have hne:i≠j:=by have:=List.mem_range.1 hi;omega
    rw [Go.ConcN.upd_ne _ _ hne,Go.ConcN.upd_ne _ _ hne]
  · simp [Go.ConcN.upd_same,hj]
structure ToI (w:World) (ss:List (List A4)) (j:Nat) (v:Value) (f:Nat→Option Addr) (c:Nat→Nat) (wr:World):Prop where
  below:Below w.heap.size w wr
  row:wr.ownsRow w.heap.size 104 1 v j (toRow f c ss j)
  acts:∀ i (h:i < ss.length),i < j→ActsIn wr (f i) ss[i]
  far:∀ i,i < j→∀ a,f i=some a→w.heap.size≤a.block∧v.ownBlock≠some a.block∧a.block < wr.heap.size
theorem ToI.step {w wr w1 w2:World} {ss:List (List A4)} {j:Nat} {v v':Value} {f:Nat→Option Addr} {c:Nat→Nat} {x:Option Addr} {k:Nat} (h:ToI w ss j v f c wr) (hj:j < ss.length)
    (b1:Below wr.heap.size wr w1) (r1:w1.ownsRow wr.heap.size 103 4 (.slice x ss[j].length k) ss[j].length (actCells ss[j])) (r2:w2.ownsRow w.heap.size 104 1 v' (j + 1) (toRow f c ss j ++ [.slice x ss[j].length k]))
    (t2:Turns (fun k=>v.ownBlock=some k) w1 w2) (n2:∀ g,v'.ownBlock=some g→v.ownBlock=some g∨w1.heap.size≤g):ToI w ss (j + 1) v' (Go.ConcN.upd f j x) (Go.ConcN.upd c j k) w2:=by
  have hv:∀ g,v.ownBlock=some g→w.heap.size≤g∧g < wr.heap.size:=fun g hg=>h.row.lt g hg
  have hx:∀ a,x=some a→wr.heap.size≤a.block∧a.block < w1.heap.size:=fun a e=>by
    subst e
    rcases r1.2 with ⟨h1,_⟩ | ⟨g,cap,cur,h1,h2,h3,_⟩
    · cases h1
    · injection h1 with h1 _ _
      injection h1 with h1
      subst h1
      exact ⟨h2,(Array.getElem?_eq_some_iff.1 h3).1⟩
  refine ⟨h.below.trans ((b1.mono h.below.size).trans (t2.below (fun k hk _=>(hv k hk).1) (Nat.le_trans h.below.size b1.size))),by rw [toRow_snoc f c ss j hj];exact r2,fun i hi hij=>?_,fun i hij a e=>?_⟩
  · by_cases e:i=j
    · subst e
      rw [Go.ConcN.upd_same]
      refine (actsIn_row r1).kept fun b off e hlt=>t2.block b hlt fun hk=>?_
      have h1:=hx _ e
      have h2:=hv b hk
      simp at h1
      omega
    · rw [Go.ConcN.upd_ne _ _ e]
      refine (h.acts i hi (by omega)).kept fun b off e2 hlt=>?_
      have h1:=h.far i (by omega) _ e2
      exact (t2.block b (Nat.lt_of_lt_of_le hlt b1.size) (fun hk=>h1.2.1 hk)).trans (b1.block b hlt)
  · have hs:=t2.size
    by_cases e2:i=j
    · subst e2
      rw [Go.ConcN.upd_same] at e
      have h1:=hx a e
      refine ⟨Nat.le_trans h.below.size h1.1,fun hk=>?_,by omega⟩
      rcases n2 _ hk with h3 | h3
      · have:=hv _ h3;omega
      · omega
    · rw [Go.ConcN.upd_ne _ _ e2] at e
      have h1:=h.far i (by omega) a e
      have hb:=b1.size
      refine ⟨h1.1,fun hk=>?_,by omega⟩
      rcases n2 _ hk with h3 | h3
      · exact h1.2.1 h3
      · omega
theorem row_blw {w w':World} {base n size:Nat} {e:TypeId} {v:Value} {xs:List Value} (h:w.ownsRow base e size v n xs) (hb:Below w.heap.size w w'):w'.ownsRow base e size v n xs:=ownsRow_of (fun g hg=>hb.block g (h.lt g hg).2) h
theorem ActsIn.lt {w:World} {b off j:Nat} {l:List A4} (h:ActsIn w (some ⟨b,off,none⟩) l) (hj:j < l.length):b < w.heap.size:=by
  obtain ⟨b',off',e,h1,_⟩:=h j hj
  have h2:=World.block_lt_of_cell? w ⟨b',off' + j * 4,none⟩ h1
  injection e with e
  injection e with e1
  rw [e1]
  exact h2
set_option maxHeartbeats 4000000 in
theorem to4_any (so:Option Addr) (scap:Nat) (ao:Nat→Option Addr) (acap:Nat→Nat) (ss:List (List A4)) (w:World) (hn:ss.length * 24≤140737488351232) (hl:∀ s∈ss,s.length * 32≤140737488351232) (hs:ScriptsIn w so ao acap ss) :
    Calls Try.prog 15 #[.slice so ss.length scap] w fun e w'=>∃ so' scap' f c,e=.returned (.slice so' ss.length scap')∧ScriptsIn w' so' f c ss∧Below w.heap.size w w'∧∀ x,ScrBlk so' f ss x→w.heap.size≤x∧x < w'.heap.size:=by
  obtain ⟨i0,hi0,hz0,hz1,hz2⟩:=info_parts info_act
  obtain ⟨i1,hi1,hy0,hy1,hy2⟩:=info_parts info_acts
  have Hs:=Lib.hid hs
  have Hl:=Lib.hid hl
  clear hs hl
  go_enter Try.func15,Try.ntmps15
  go_wp2_with fail
  go_loopw [3,10] (fun v i wr=>∃ (j:Nat) (f:Nat→Option Addr) (c:Nat→Nat),j≤ss.length∧i=.int .i64 j∧Hid (ToI w ss j v f c wr)) (fun _ i _=>ss.length - (intOf i).toNat)
  case atStart=>exact ⟨0,fun _=>none,fun _=>0,Nat.zero_le _,rfl,⟨Below.refl _ _,World.ownsRow_nil _ _ _ _,fun _ _ h=>absurd h (Nat.not_lt_zero _),fun _ h=>absurd h (Nat.not_lt_zero _)⟩⟩
  case round =>
    obtain ⟨j,f,c,hj,rfl,hI⟩:=hrel
    by_cases hlt:j < ss.length
    · obtain ⟨b,off,rfl,hc⟩:=(Hs.out.below hI.out.below).at_ j hlt
      have Ha:=Lib.hid ((Hs.out.below hI.out.below).acts j hlt)
      have hlj:ss[j].length * 32≤140737488351232:=Hl.out _ (List.getElem_mem _)
      obtain ⟨aj,haj⟩:∃ x,x=ao j:=⟨_,rfl⟩
      obtain ⟨cj,hcj⟩:∃ x,x=acap j:=⟨_,rfl⟩
      rw [← haj] at Ha hc
      rw [← hcj] at hc
      clear haj hcj
      go_wp2_with fail
      obtain ⟨wB,rfl⟩:∃ x,x=wr:=⟨wr,rfl⟩
      go_loopw [5,18] (fun u i wr2=>∃ k:Nat,k≤ss[j].length∧i=.int .i64 k∧Below wB.heap.size wB wr2∧wr2.ownsRow wB.heap.size 103 4 u k (actCells (ss[j].take k))) (fun _ i _=>ss[j].length - (intOf i).toNat)
      case atStart=>exact ⟨0,Nat.zero_le _,rfl,Below.refl _ _,World.ownsRow_nil _ _ _ _⟩
      case round =>
        obtain ⟨k,hk,rfl,hb,hown⟩:=hrel
        by_cases hlt2:k < ss[j].length
        · obtain ⟨b2,o2,rfl,h1,h2,h3,h4⟩:=(Ha.out.below hb) k hlt2
          have hbs:=hb.size
          have Hb:=Lib.hid hb
          have Ho:=Lib.hid hown
          clear hb hown
          have hnw:((wr.alloc (.cells #[.int .i64 ss[j][k].k,.int .i64 ss[j][k].at_,.int .i64 ss[j][k].a,.int .i64 ss[j][k].b] 108)).alloc (.cells #[.int .i64 ss[j][k].k,.int .i64 ss[j][k].at_,.int .i64 ss[j][k].a,.int .i64 ss[j][k].b] 103)).heap[wr.heap.size + 1]?=some (.cells #[.int .i64 ss[j][k].k,.int .i64 ss[j][k].at_,.int .i64 ss[j][k].a,.int .i64 ss[j][k].b] 103 (0,0)):=by
            have:=heap_alloc_new (wr.alloc (.cells #[.int .i64 ss[j][k].k,.int .i64 ss[j][k].at_,.int .i64 ss[j][k].a,.int .i64 ss[j][k].b] 108)) (.cells #[.int .i64 ss[j][k].k,.int .i64 ss[j][k].at_,.int .i64 ss[j][k].a,.int .i64 ss[j][k].b] 103)
            simpa using this
          have Hn:=Lib.hid hnw
          clear hnw
          go_wp2_with (at_builtin;refine wpList_append_lies _ rfl _ _ 104 rfl wB.heap.size 103 i0 (.agg #[.int .i64 0,.int .i64 0,.int .i64 0,.int .i64 0]) 4 32 Try.underlying104 hi0 hz0 hz1 hz2 rfl (by decide) u5 k _ rfl ((Ho.out.alloc _).alloc _) ⟨wr.heap.size + 1,0,none⟩ 1 1 [.int .i64 ss[j][k].k,.int .i64 ss[j][k].at_,.int .i64 ss[j][k].a,.int .i64 ss[j][k].b] rfl rfl (World.news_of_block Hn.out) (by simp [Value.oneCell']) (by omega) (by unfold maxLen;omega) (by omega) (by simp;omega) (wr.heap.size + 2) (by simp) ?_)
          intro gg cap w1 g1 g2 g3 g4
          have Hb1:=Lib.hid (Hb.out.trans ((((Turns.alloc _ _ _).trans (Turns.alloc _ _ _)).trans (Turns.grown g2 (fun _ h=>h))).below (fun k hk _=>(Ho.out.lt k hk).1) Hb.out.size))
          have Hg:=Lib.hid g1
          clear g1 g2 g3 g4
          go_wp2
          go_roundw
          case rel =>
            refine ⟨k + 1,by omega,by go_num,Hb1.out,?_⟩
            rw [List.take_succ_eq_append_getElem hlt2,actCells_snoc]
            exact Hg.out
          case measure=>simp [intOf];omega
        · obtain rfl:k=ss[j].length:=by omega
          rw [List.take_length] at hown
          have Hb:=Lib.hid hb
          have Ho:=Lib.hid hown
          have hbs:=hb.size
          have hb0:=hI.out.below.size
          clear hb hown
          obtain ⟨x,kx,rfl⟩:=row_shape Ho.out
          go_wp2_with (at_builtin;refine wpList_append_one rfl _ _ 42 rfl w.heap.size 104 i1 (.slice none 0 0) 1 24 Try.underlying42 hi1 hy0 hy1 hy2 rfl (by decide) (by decide) _ j _ [.slice x ss[j].length kx] rfl (row_blw hI.out.row Hb.out) rfl rfl (by simp [Value.oneCell']) (by omega) (by omega) ?_)
          intro v' w1 g1 g2 g3
          have HI:=Lib.hid (hI.out.step hlt Hb.out Ho.out g1 g2 g3)
          clear g1 g2 g3
          go_wp2
          go_roundw
          case rel=>exact ⟨j + 1,_,_,by omega,by go_num,HI⟩
          case measure=>simp [intOf];omega
    · obtain rfl:j=ss.length:=by omega
      obtain ⟨x,kx,rfl⟩:=row_shape hI.out.row
      go_wp2
      go_ret
      refine ⟨x,kx,f,c,rfl,⟨fun i hi=>?_,fun i hi=>hI.out.acts i hi hi⟩,hI.out.below,fun y hy=>?_⟩
      · have hr:=hI.out.row
        rcases hr.2 with ⟨hv,hn0⟩ | ⟨g,cap,cur,hv,_⟩
        · omega
        · injection hv with ha _ _
          subst ha
          have:=hr.cells (g:=g) rfl i (.slice (f i) ss[i].length (c i)) (by simp [toRow,hi])
          have hadd:(⟨g,0,none⟩:Addr).add i=⟨g,i,none⟩:=by unfold Addr.add;split <;> simp_all
          rw [hadd] at this
          exact ⟨g,0,rfl,by rw [Nat.zero_add];exact this⟩
      · rcases hy with ⟨off,e⟩ | ⟨i,hi,_,off,e⟩
        · subst e
          rcases hI.out.row.2 with ⟨hv,_⟩ | ⟨g,cap,cur,hv,h2,h3,_⟩
          · cases hv
          · injection hv with ha _ _
            injection ha with ha
            injection ha with ha
            subst ha
            exact ⟨h2,(Array.getElem?_eq_some_iff.1 h3).1⟩
        · have:=hI.out.far i hi _ e
          exact ⟨this.1,this.2.2⟩
end Go.Proofs.Ytndppafplgilbaa
