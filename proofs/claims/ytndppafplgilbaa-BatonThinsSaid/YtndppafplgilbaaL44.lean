/-
  larchlaw04.BatonThins returns true for every input. No condition. (Part 44 of 49; joined by program.)
-/
import Derived.Test.YtndppafplgilbaaL43
import Derived.Test.YtndppafplgilbaaL42
import Derived.Test.YtndppafplgilbaaL35
import Derived.Test.YtndppafplgilbaaL28
set_option linter.unusedVariables false
set_option linter.unusedSimpArgs false
set_option linter.unusedSectionVars false
set_option maxRecDepth 100000
namespace Go.Proofs.Ytndppafplgilbaa
open Go Go.Conc Go.RowKit
open Go.ConcN (sumTo upd sumTo_upd upd_ne upd_same)
structure Tailed (L:PL) (l:List Nat) (gb pb:Nat) (cs:List Int) (stv ev pv fv:Value) (w2 w:World):Prop where
  G:Grow (c0 gb 1) (fun k=>k∈gb :: l) (fun k=>k=pb) w2 w
  p:w.heap[pb]?=some (.cells #[stv,ev,pv,.slice (some ⟨L.ansB,0,none⟩) L.n L.n,fv] 38 (0,0))
  row:w.ownsRow 0 3 1 fv L.m (cs.map (Value.int .i64))
  fvO:∀ g,fv.ownBlock=some g→g ∉ gb :: l∧g≠pb∧w2.heap.size≤g
section
variable {Post:Value→World→Prop}
set_option maxRecDepth 100000 in
set_option maxHeartbeats 16000000 in
theorem play_d {c:Frame} {cf:List Frame} {st:Addr} {l:List Nat} {n0 cc scap pcap sb rz rowB rbv nb0 ansB pb gb tB:Nat} {ca so po:Option Addr} {ao:Nat→Option Addr} {cells:List Int} {ss:List (List A4)} {ps:List Int} {w w1 w2:World} {Γ2:PG} {steps:List Stp} {stv ev pv:Value} (ok:HidOk (fun k=>k∈l) w) (hm64:cells.length≤64)
    (X:Made st w l cells.length ss.length cells (.slice so ss.length scap) sb rz rowB rbv nb0 ansB pb w1)
    (okL:(playPL so ao ss cells.length nb0 ansB sb pb rbv rowB w1).Ok) (R:Ran (playPL so ao ss cells.length nb0 ansB sb pb rbv rowB w1) okL cells l w1 gb tB Γ2 steps stv ev pv w2)
    (H:∀ (fv:Value) (w':World),Tailed (playPL so ao ss cells.length nb0 ansB sb pb rbv rowB w1) l gb pb Γ2.cs stv ev pv fv w2 w'→∀ ts:Array Value,(∃ z0 z1 z2 z3 z4 z5 z7 z8 z9 z10 z11 z12 z13 z14 z15 z16 z17 z19 z21 z22 z23 z24 z25 z26 z27 z28 z29 z30 z31 z32 z33 z34 z35 z36 z37 z38 z39 z40 z41 z42 z43 z44 z45 z46 z47 z48 z49 z50 z51 z52 z53 z54 z55 z56 z57 z58 z59 z60 z61 z62 z63 z64 z65 z66 z67 z68 z69 z70 z71 z72 z73 z74 z75 z76 z77 z78 z79 z80 z81 z82 z83 z84 z85 z86 z87 z88 z89 z90 z91 z92 z93 z94 z95 z96 z97 z98 z99 z100 z101 z102 z103:Value,ts=#[z0,z1,z2,z3,z4,z5,.pointer (some (c0 rz 0)),z7,z8,z9,z10,z11,z12,z13,z14,z15,z16,z17,.pointer (some (c0 pb 0)),z19,.int .i64 0,z21,z22,z23,z24,z25,z26,z27,z28,z29,z30,z31,z32,z33,z34,z35,z36,z37,z38,z39,z40,z41,z42,z43,z44,z45,z46,z47,z48,z49,z50,z51,z52,z53,z54,z55,z56,z57,z58,z59,z60,z61,z62,z63,z64,z65,z66,z67,z68,z69,z70,z71,z72,z73,z74,z75,z76,z77,z78,z79,z80,z81,z82,z83,z84,z85,z86,z87,z88,z89,z90,z91,z92,z93,z94,z95,z96,z97,z98,z99,z100,z101,z102,z103])→LM Try.prog Post (sitI (gb :: l) (c0 gb 1) n0) (G ((bk 14 .normal).at ⟨ts,[]⟩ [.code (seqR (seqR playTail))]) (c :: cf)) w')
    {ts:Array Value} (hts:∃ z3 z5 z8 z9 z10 z11 z12 z13 z14 z16 z17 z21 z22 z23 z24 z25 z26 z27 z28 z29 z30 z31 z32 z33 z34 z35 z36 z37 z38 z39 z40 z41 z42 z43 z44 z45 z46 z47 z48 z49 z50 z51 z52 z53 z54 z55 z56 z57 z58 z59 z60 z61 z62 z63 z64 z65 z66 z67 z68 z69 z70 z71 z72 z73 z74 z75 z76 z77 z78 z79 z80 z81 z82 z83 z84 z85 z86 z87 z88 z89 z90 z91 z92 z93 z94 z95 z96 z97 z98 z99 z100 z101 z102 z103:Value,ts=#[.slice ca cells.length cc,.slice so ss.length scap,.slice po ps.length pcap,z3,.pointer (some (c0 sb 0)),z5,.pointer (some (c0 rz 0)),.int .i64 0,z8,z9,z10,z11,z12,z13,z14,.pointer (some (c0 rbv 0)),z16,z17,.pointer (some (c0 pb 0)),.pointer (some (c0 tB 0)),.int .i64 0,z21,z22,z23,z24,z25,z26,z27,z28,z29,z30,z31,z32,z33,z34,z35,z36,z37,z38,z39,z40,z41,z42,z43,z44,z45,z46,z47,z48,z49,z50,z51,z52,z53,z54,z55,z56,z57,z58,z59,z60,z61,z62,z63,z64,z65,z66,z67,z68,z69,z70,z71,z72,z73,z74,z75,z76,z77,z78,z79,z80,z81,z82,z83,z84,z85,z86,z87,z88,z89,z90,z91,z92,z93,z94,z95,z96,z97,z98,z99,z100,z101,z102,z103]) :
    LM Try.prog Post (sitI (gb :: l) (c0 gb 1) n0) (G ((bk 14 .normal).at ⟨ts,[]⟩ [.code playB8]) (c :: cf)) w2:=by
  obtain ⟨z3,z5,z8,z9,z10,z11,z12,z13,z14,z16,z17,z21,z22,z23,z24,z25,z26,z27,z28,z29,z30,z31,z32,z33,z34,z35,z36,z37,z38,z39,z40,z41,z42,z43,z44,z45,z46,z47,z48,z49,z50,z51,z52,z53,z54,z55,z56,z57,z58,z59,z60,z61,z62,z63,z64,z65,z66,z67,z68,z69,z70,z71,z72,z73,z74,z75,z76,z77,z78,z79,z80,z81,z82,z83,z84,z85,z86,z87,z88,z89,z90,z91,z92,z93,z94,z95,z96,z97,z98,z99,z100,z101,z102,z103,rfl⟩:=hts
  have O:=ownM Try.prog Post
  have T:=O.toCtl
  have hq:(Try.prog.funcs[14]?).any (·.norace)=false:=by rw [Try.func14];rfl
  have hh:=hidesI (l:=gb :: l) (st:=c0 gb 1) (n:=n0) (fun _=>List.mem_cons_self ..)
  obtain ⟨o1,o2,o3,o4,o5,o6,o7,o8⟩:=X.ord
  have fpb:(playPL so ao ss cells.length nb0 ansB sb pb rbv rowB w1).fix pb:=.inr (.inl rfl)
  have frv:(playPL so ao ss cells.length nb0 ansB sb pb rbv rowB w1).fix rbv:=.inr (.inr (.inl rfl))
  have frow:(playPL so ao ss cells.length nb0 ansB sb pb rbv rowB w1).fix rowB:=.inr (.inr (.inr (.inl rfl)))
  have hp2:w2.heap[pb]?=_:=(R.M.fixed pb fpb).trans X.p
  have hrv2:w2.heap[rbv]?=_:=(R.M.fixed rbv frv).trans X.rv
  obtain ⟨cr,hcr,hcp⟩:=X.row
  have hcr2:w2.heap[rowB]?=_:=(R.M.fixed rowB frow).trans hcr
  have hpbH:pb ∉ gb :: l:=fun h=>R.lfoot _ h (.inl fpb)
  have hrvH:rbv ∉ gb :: l:=fun h=>R.lfoot _ h (.inl frv)
  have hrowH:rowB ∉ gb :: l:=fun h=>R.lfoot _ h (.inl frow)
  have hnF:∀ j,j < cells.length→playFoot (playPL so ao ss cells.length nb0 ansB sb pb rbv rowB w1) Γ2 (nb0 + j):=fun j hj=>.inr (.inr (.inl ⟨j,hj,rfl⟩))
  have hsz:=R.size
  have hpn:pb≠tB:=fun e=>R.ht.2.2 (e ▸ .inl fpb)
  have hlen:Γ2.cs.length=cells.length:=R.M.len
  have h1:(#[stv,ev,pv]:Array Value).all (·.oneCell')=true:=by simp [ownsRow_one R.st,ownsRow_one R.ev_,ownsRow_one R.pv_]
  have Rh:=R.hid
  have Rt:=R.told
  have Rtl:=R.ht.2.1
  have Xl:=Lib.hid X
  have Rl:=Lib.hid R
  have Hp2:=Lib.hid hp2
  clear X R hp2
  simp only [playB8,seqR,Option.getD_some,Try.f14]
  refine laW ?_
  refine l_loadRow O hh (by simp) Rh rfl (by rfl) rfl (by simp [Act.eval]) Rt Rtl Try.underlying36 (by rfl) (by kernel_rfl) (fun w3 G3 hs3=>?_)
  walk_nrm
  refine laW ?_
  have hp3:=(G3.low pb (by omega) hpbH id).trans Hp2.out
  refine l_store3 O hh (x0:=stv) (x1:=ev) (x2:=pv) (by simp) G3.ok rfl (by rfl) rfl (by simp [Act.eval]) (by simp [Act.eval]) hp3 hpbH (by kernel_rfl) (by simp) h1 (fun w4 hp4 G4 hs4=>?_)
  walk_nrm
  have low4:∀ k,k < w2.heap.size→k ∉ gb :: l→k≠pb→w4.heap[k]?=w2.heap[k]?:=fun k h1 h2 h3=>(G4.low k (by omega) h2 h3).trans (G3.low k h1 h2 id)
  have hrv4:w4.cell? ⟨rbv,0,none⟩=some (.slice (some ⟨rowB,0,none⟩) cells.length cells.length):=cell_of_heap ((low4 rbv (by omega) hrvH (by omega)).trans hrv2) rfl
  refine laW ?_
  (refine l_loadH O hh (by simp) rfl (by rfl) hrv4 hrvH (fun w₁ hc₁=>⟨by go_simp,by simp [listed,go_sem,hc₁];exact seen_cell hq _ _ _⟩) ?_;walk_nrm)
  refine laW ?_
  refine l_block T ?_
  refine l_loop T ?_
  have R:=Rl.out
  have key:=tail_rounds (Post:=Post) (c:=c) (cf:=cf) (l:=gb :: l) (st:=c0 gb 1) (nn:=n0) (m:=cells.length) (rz:=rz) (rbv:=rbv) (pb:=pb) (rowB:=rowB) (nb:=fun j=>nb0 + j) (wb:=w4) (q:=[stv,ev,pv,.slice (some ⟨ansB,0,none⟩) ss.length ss.length]) (cs:=Γ2.cs) (e7:=0) (er:=0) (fun _=>List.mem_cons_self ..) rfl hlen hm64 (by omega) hpbH (fun j hj=>?_) ⟨hrowH,by omega⟩ (fun j hj=>?_) (fun j hj=>⟨fun h=>R.lfoot _ h (hnF j hj),by omega⟩) (fun w5 fv Z=>?_) cells.length 0 (.slice none 0 0) w4 (by omega) ⟨Grow.refl _ G4.ok,by simpa using hp4,⟨rfl,.inl ⟨rfl,rfl⟩⟩,fun g hg=>by cases hg⟩
  · simp only [tailLoop,playTail,seqL,seqR,blkOf,loopOf,Option.getD_some,Try.f14] at key
    exact key _ _ _ _ _ _ _ _ _ _ _ _ _ _ _ _ _ _ _ _ _ _ _ _ _ _ _ _ _ _ _ _ _ _ _ _ _ _ _ _ _ _ _ _ _ _ _ _ _ _ _ _ _ _ _ _ _ _ _ _ _ _ _ _ _ _ _ _ _ _ _ _ _ _ _ _ _ _ _ _ _ _ _ _ _ _ _ _ _ _ _ _ _ _ _ _
  · exact cell_of_heap ((low4 rowB (by omega) hrowH (by omega)).trans hcr2) (hcp j hj)
  · have:=R.M.nums j (by rw [← hlen];exact hj)
    rw [List.getD_eq_getElem?_getD,List.getElem?_eq_getElem hj] at this
    exact (low4 _ (by have:nb0 + j < w1.heap.size:=(by omega);omega) (fun h=>R.lfoot _ h (hnF j (by rw [← hlen];exact hj))) (by omega)).trans this
  · intro y0 y1 y2 y3 y4 y5 y8 y9 y10 y11 y12 y13 y14 y16 y17 y19 y21 y22 y23 y24 y25 y26 y27 y28 y29 y30 y31 y32 y33 y34 y35 y36 y37 y38 y39 y40 y41 y42 y43 y44 y45 y46 y47 y48 y49 y50 y51 y52 y53 y54 y55 y56 y57 y58 y59 y60 y61 y62 y63 y64 y65 y66 y67 y68 y69 y70 y71 y72 y73 y74 y75 y76 y77 y78 y79 y80 y81 y82 y83 y84 y85 y86 y87 y91 y92 y93 y94 y95 y96 y97 y98 y99 y100 y101 y102 y103
    have key2:=H fv w5 ⟨(G3.transN (fun _=>List.mem_cons_self ..) G4 (fun _ h=>h.elim) (fun _ _ h=>h)).transN (fun _=>List.mem_cons_self ..) Z.G (fun _ h=>h) (fun _ _ h=>h),by have h:=Z.p;simp at h;exact h,by have:=Z.row;rwa [List.take_of_length_le (by omega)] at this,fun g hg=>⟨(Z.evO g hg).1,(Z.evO g hg).2.1,by have:=(Z.evO g hg).2.2;omega⟩⟩
    exact key2 _ ⟨_,_,_,_,_,_,_,_,_,_,_,_,_,_,_,_,_,_,_,_,_,_,_,_,_,_,_,_,_,_,_,_,_,_,_,_,_,_,_,_,_,_,_,_,_,_,_,_,_,_,_,_,_,_,_,_,_,_,_,_,_,_,_,_,_,_,_,_,_,_,_,_,_,_,_,_,_,_,_,_,_,_,_,_,_,_,_,_,_,_,_,_,_,_,_,_,_,_,_,_,_,rfl⟩
end
end Go.Proofs.Ytndppafplgilbaa
namespace Go.Proofs.Ytndppafplgilbaa
open Go Go.Conc Go.RowKit
open Go.ConcN (sumTo upd sumTo_upd upd_ne upd_same)
section
variable {Post:Value→World→Prop}
set_option maxRecDepth 100000 in
set_option maxHeartbeats 16000000 in
theorem play_e {c:Frame} {cf:List Frame} {l:List Nat} {st:Addr} {n0 rz pb:Nat} {old P:Array Value} {w:World} (hst:st.spot=none→st.block∈l) (ok:HidOk (fun k=>k∈l) w) (hp:w.heap[pb]?=some (.cells P 38 (0,0))) (hpH:pb ∉ l) (hz:w.heap[rz]?=some (.cells old 38 (0,0))) (hzH:rz ∉ l)
    (hP:P.size=5) (hold:old.size=5) (h1:P.all (·.oneCell')=true)
    (H:∀ (w':World),Grow st (fun k=>k∈l) (fun k=>k=rz) w w'→w'.heap.size=w.heap.size→LM Try.prog Post (sitI l st n0) (G (c.finish (.tuple #[.agg P,.int .i64 0])) cf) w')
    {ts:Array Value} (hts:∃ z0 z1 z2 z3 z4 z5 z7 z8 z9 z10 z11 z12 z13 z14 z15 z16 z17 z19 z21 z22 z23 z24 z25 z26 z27 z28 z29 z30 z31 z32 z33 z34 z35 z36 z37 z38 z39 z40 z41 z42 z43 z44 z45 z46 z47 z48 z49 z50 z51 z52 z53 z54 z55 z56 z57 z58 z59 z60 z61 z62 z63 z64 z65 z66 z67 z68 z69 z70 z71 z72 z73 z74 z75 z76 z77 z78 z79 z80 z81 z82 z83 z84 z85 z86 z87 z88 z89 z90 z91 z92 z93 z94 z95 z96 z97 z98 z99 z100 z101 z102 z103:Value,ts=#[z0,z1,z2,z3,z4,z5,.pointer (some (c0 rz 0)),z7,z8,z9,z10,z11,z12,z13,z14,z15,z16,z17,.pointer (some (c0 pb 0)),z19,.int .i64 0,z21,z22,z23,z24,z25,z26,z27,z28,z29,z30,z31,z32,z33,z34,z35,z36,z37,z38,z39,z40,z41,z42,z43,z44,z45,z46,z47,z48,z49,z50,z51,z52,z53,z54,z55,z56,z57,z58,z59,z60,z61,z62,z63,z64,z65,z66,z67,z68,z69,z70,z71,z72,z73,z74,z75,z76,z77,z78,z79,z80,z81,z82,z83,z84,z85,z86,z87,z88,z89,z90,z91,z92,z93,z94,z95,z96,z97,z98,z99,z100,z101,z102,z103]) :
    LM Try.prog Post (sitI l st n0) (G ((bk 14 .normal).at ⟨ts,[]⟩ [.code (seqR (seqR playTail))]) (c :: cf)) w:=by
  obtain ⟨z0,z1,z2,z3,z4,z5,z7,z8,z9,z10,z11,z12,z13,z14,z15,z16,z17,z19,z21,z22,z23,z24,z25,z26,z27,z28,z29,z30,z31,z32,z33,z34,z35,z36,z37,z38,z39,z40,z41,z42,z43,z44,z45,z46,z47,z48,z49,z50,z51,z52,z53,z54,z55,z56,z57,z58,z59,z60,z61,z62,z63,z64,z65,z66,z67,z68,z69,z70,z71,z72,z73,z74,z75,z76,z77,z78,z79,z80,z81,z82,z83,z84,z85,z86,z87,z88,z89,z90,z91,z92,z93,z94,z95,z96,z97,z98,z99,z100,z101,z102,z103,rfl⟩:=hts
  have O:=ownM Try.prog Post
  have T:=O.toCtl
  have hh:=hidesI (n:=n0) hst
  have hi5:(Try.prog.info? 38).map (·.size)=some P.size:=by rw [hP];kernel_rfl
  simp only [playTail,seqR,Option.getD_some,Try.f14]
  refine laW ?_
  refine l_loadRow O hh (by simp) ok rfl (by rfl) rfl (by simp [Act.eval]) hp hpH Try.underlying38 (by rfl) hi5 (fun w3 G3 hs3=>?_)
  walk_nrm
  refine laW ?_
  have hz3:=(G3.low rz (Array.getElem?_eq_some_iff.1 hz).1 hzH id).trans hz
  refine l_storeRow O hh (cells:=P) (by simp) G3.ok rfl (by rfl) rfl (by simp [Act.eval]) (by simp [Act.eval]) hz3 hzH hi5 (by rw [hP,hold]) h1 (fun w4 hz4 G4 hs4=>?_)
  walk_nrm
  refine laW ?_
  refine l_ret T ?_
  refine l_leaveM O hh G4.ok (val:=.tuple #[.agg P,.int .i64 0]) Try.func14 (fun v M=>?_) (fun w5 G5 hs5=>?_)
  · exact results_cell_row_tmp (fn:=Try.f14) (p:=6) (u:=7) rfl _ v rz 38 P (0,0) _ (by simp) (M.seen hzH hz4) Try.underlying38 (by rfl) hi5
  · exact H w5 ((G3.transN hst G4 (fun _ h=>h.elim) (fun _ _ h=>h)).transN hst G5 (fun _ h=>h) (fun _ _ h=>h.elim)) (by omega)
end
end Go.Proofs.Ytndppafplgilbaa
namespace Go.Proofs.Ytndppafplgilbaa
open Go Go.Conc Go.RowKit
open Go.ConcN (sumTo upd sumTo_upd upd_ne upd_same)
structure PQ where
  cs:List Int
  left:Nat→List A4
  ans:Nat→List Int
def PQ.pick (n:Nat) (q:PQ) (p:Int):PQ × Stp :=
  if 0≤p∧p < n then match q.left p.toNat with
    | a :: r=>(⟨q.cs.set a.at_.toNat (numNew a.k (q.cs.getD a.at_.toNat 0) a.a a.b),upd q.left p.toNat r,upd q.ans p.toNat (q.ans p.toNat ++ [numAns a.k (q.cs.getD a.at_.toNat 0) a.a])⟩,⟨p,a.k,r.isEmpty⟩)
    | []=>(q,⟨p,-1,false⟩)
  else (q,⟨p,-1,false⟩)
def PQ.runs (n:Nat):PQ→List Int→PQ × List Stp
  | q,[]=>(q,[])
  | q,p :: ps=>(((q.pick n p).1.runs n ps).1,(q.pick n p).2 :: ((q.pick n p).1.runs n ps).2)
def PG.q (Γ:PG):PQ:=⟨Γ.cs,fun i=>(Γ.pos i).getD [],Γ.ans⟩
def PG.begun (Γ:PG) (n:Nat):Prop:=∀ i,i < n→∃ r,Γ.pos i=some r
def PQ.start (cells:List Int) (ss:List (List A4)):PQ:=⟨cells,fun i=>ss.getD i [],fun _=>[]⟩
section
variable {L:PL} {okL:L.Ok} {n:Nat}
theorem pick_plain {Γ Γ':PG} {p:Int} {s:Stp} (hb:Γ.begun n) (h:(PlayCli L okL).Pick n Γ p Γ' s):Γ'.begun n∧(Γ'.q,s)=Γ.q.pick n p:=by
  unfold Cli.Pick at h
  unfold PQ.pick
  by_cases c:0≤p∧p < n
  · rw [if_pos c] at h
    rw [if_pos c]
    have hi:p.toNat < n:=by omega
    obtain ⟨r,hr⟩:=hb _ hi
    have eo:∀ Γ:PG,(PlayCli L okL).own p.toNat Γ=(Γ.pos p.toNat,Γ.av p.toNat):=fun _=>rfl
    have es:(PlayCli L okL).stand=playStand:=rfl
    rw [es,eo,hr] at h
    have el:Γ.q.left p.toNat=r:=by simp [PG.q,hr]
    rw [el]
    cases r with
    | nil =>
      obtain ⟨rfl,rfl⟩:=h
      exact ⟨hb,rfl⟩
    | cons a r =>
      obtain ⟨nx,rfl⟩:=h
      replace nx:playNext L p.toNat Γ Γ':=nx
      unfold playNext at nx
      rw [hr] at nx
      obtain ⟨v,rfl⟩:=nx
      refine ⟨fun i hi=>?_,?_⟩
      · by_cases e:i=p.toNat
        · subst e;exact ⟨r,by simp [playStep,upd_same]⟩
        · obtain ⟨r',h'⟩:=hb i hi
          exact ⟨r',by simp [playStep,upd_ne _ _ e,h']⟩
      · have e1:(fun i=>(upd Γ.pos p.toNat (some r) i).getD [])=upd (fun i=>(Γ.pos i).getD []) p.toNat r:=by
          funext i
          by_cases e:i=p.toNat
          · subst e;rw [upd_same,upd_same];rfl
          · rw [upd_ne _ _ e,upd_ne _ _ e]
        have e2:(playStand (some r,v)).isNone=r.isEmpty:=by cases r <;> rfl
        simp only [PG.q,playStep,e1,eo,upd_same,e2,Prod.mk.injEq,and_true,true_and,PQ.mk.injEq]
  · rw [if_neg c] at h
    rw [if_neg c]
    obtain ⟨rfl,rfl⟩:=h
    exact ⟨hb,rfl⟩
theorem runs_plain:∀ {ps:List Int} {Γ Γ':PG} {l:List Stp},Γ.begun n→(PlayCli L okL).Runs n Γ ps Γ' l→Γ'.begun n∧(Γ'.q,l)=Γ.q.runs n ps
  | [],Γ,Γ',l,hb,⟨e1,e2⟩=>by
    replace e1:Γ'=Γ:=e1
    subst e1;subst e2
    exact ⟨hb,rfl⟩
  | p :: ps,Γ,Γ',l,hb,⟨Γ1,s,l',h1,h2,e⟩=>by
    subst e
    obtain ⟨hb1,e1⟩:=pick_plain hb h1
    obtain ⟨hb2,e2⟩:=runs_plain hb1 h2
    refine ⟨hb2,?_⟩
    have e3:Γ1.q=(Γ.q.pick n p).1:=congrArg Prod.fst e1
    have e4:s=(Γ.q.pick n p).2:=congrArg Prod.snd e1
    have e5:Γ'.q=(Γ1.q.runs n ps).1:=congrArg Prod.fst e2
    have e6:l'=(Γ1.q.runs n ps).2:=congrArg Prod.snd e2
    show _=(((Γ.q.pick n p).1.runs n ps).1,(Γ.q.pick n p).2 :: ((Γ.q.pick n p).1.runs n ps).2)
    rw [← e3,← e4,← e5,← e6]
theorem play_plain {cells:List Int} {ps:List Int} {Γ1 Γ2:PG} {l:List Stp} (hup:(PlayCli L okL).Upto (play0 cells) L.n Γ1) (hr:(PlayCli L okL).Runs L.n Γ1 ps Γ2 l):Γ2.begun L.n∧Γ2.q=((PQ.start cells L.scripts).runs L.n ps).1∧l=((PQ.start cells L.scripts).runs L.n ps).2:=by
  have e:=play_upto hup
  subst e
  obtain ⟨h1,h2⟩:=runs_plain (fun i hi=>⟨L.script i,by simp [hi]⟩) hr
  have e:(PG.q { play0 cells with pos:=fun j=>if j < L.n then some (L.script j) else none })=PQ.start cells L.scripts:=by
    simp only [PG.q,PQ.start,play0,PQ.mk.injEq,and_true,true_and]
    funext i
    by_cases c:i < L.n
    · rw [if_pos c];rfl
    · rw [if_neg c]
      show []=L.scripts.getD i []
      rw [List.getD_eq_getElem?_getD,List.getElem?_eq_none (by unfold PL.n at c;omega)];rfl
  have h3:Γ2.q=_:=congrArg Prod.fst h2
  have h4:l=_:=congrArg Prod.snd h2
  rw [← e]
  exact ⟨h1,h3,h4⟩
theorem endsV_plain {Γ:PG} (hb:Γ.begun n):endsV (PlayCli L okL) Γ n=(List.range n).map fun i=>.bool (Γ.q.left i).isEmpty:=by
  unfold endsV
  refine List.map_congr_left fun i hi=>?_
  obtain ⟨r,hr⟩:=hb i (List.mem_range.1 hi)
  have e:endV (PlayCli L okL) Γ i=(playStand (Γ.pos i,Γ.av i)).isNone:=rfl
  rw [e,hr]
  have e2:Γ.q.left i=r:=by simp [PG.q,hr]
  rw [e2]
  cases r <;> rfl
theorem pansV_plain {Γ:PG}:pansV (PlayCli L okL) Γ n=(List.range n).map fun _=>.bool false:=by
  unfold pansV
  refine List.map_congr_left fun i hi=>?_
  have e:panV (PlayCli L okL) Γ i=((playStand (Γ.pos i,Γ.av i)).isNone && false):=rfl
  rw [e,Bool.and_false]
end
end Go.Proofs.Ytndppafplgilbaa
namespace Go.Proofs.Ytndppafplgilbaa
open Go Go.Conc Go.RowKit
open Go.ConcN (sumTo upd sumTo_upd upd_ne upd_same)
structure PlayDone (l:List Nat) (gb:Nat) (cells:List Int) (n:Nat) (q:PQ) (steps:List Stp) (stv ev pv anv fv:Value) (w w':World):Prop where
  hid:HidOk (fun k=>k∈gb :: l) w'
  hgb:w.heap.size≤gb
  cnt:w'.cell? (c0 gb 1)=some (.int .u64 0)
  low:∀ k,k < w.heap.size→k ∉ l→w'.heap[k]?=w.heap[k]?
  size:w.heap.size≤w'.heap.size
  st:w'.ownsRow 0 stepT 3 stv steps.length (stepsV steps)
  en:w'.ownsRow 0 boolT 1 ev n ((List.range n).map fun i=>.bool (q.left i).isEmpty)
  pa:w'.ownsRow 0 boolT 1 pv n ((List.range n).map fun _=>.bool false)
  an:∃ (ansB:Nat) (av:Nat→Value),anv=.slice (some ⟨ansB,0,none⟩) n n∧(w.heap.size≤ansB∧ansB ∉ gb :: l)∧w'.heap[ansB]?=some (.cells (avArr n av) 22 (0,0)) ∧
    ∀ i,i < n→w'.ownsRow 0 3 1 (av i) (q.ans i).length ((q.ans i).map (Value.int .i64))∧∀ g,(av i).ownBlock=some g→w.heap.size≤g∧g ∉ gb :: l
  fi:w'.ownsRow 0 3 1 fv cells.length (q.cs.map (Value.int .i64))
  fresh:∀ g,stv.ownBlock=some g∨ev.ownBlock=some g∨pv.ownBlock=some g∨fv.ownBlock=some g→w.heap.size≤g∧g ∉ gb :: l
section
variable {Post:Value→World→Prop}
theorem play_calls {l:List Nat} {st:Addr} {n0 cc scap pcap:Nat} {ca so po:Option Addr} {ao:Nat→Option Addr} {acap:Nat→Nat} {cells:List Int} {ss:List (List A4)} {ps:List Int} {w:World} (hst:st.spot=none→st.block∈l) (ok:HidOk (fun k=>k∈l) w)
    (old:st.spot≠none∨w.cell? st=some (.int .u64 0)) (pos:0 < n0) (hm64:cells.length≤64) (hn1:1≤ss.length) (hn64:ss.length≤64) (hM6:ps.length≤1000000) (hlen:∀ s∈ss,s.length≤1000) (herr:scriptsErr cells.length ss=0)
    (hi:IntsIn w ca cells) (hiF:∀ b off,ca=some ⟨b,off,none⟩→cells≠[]→b ∉ l) (hs:ScriptsIn w so ao acap ss) (hsF:ScrFree (fun k=>k∈l) so ao ss) (hpk:NumsAt (fun b=>b ∉ l∧¬ ScrBlk so ao ss b) po ps w) :
    CallsL Try.prog (LM Try.prog Post) (fun _=>True) 14 #[.slice ca cells.length cc,.slice so ss.length scap,.slice po ps.length pcap] (sitI l st n0) w (fun r s' w'=>∃ gb stv ev pv anv fv,r=.inl (.tuple #[.agg #[stv,ev,pv,anv,fv],.int .i64 0])∧s'=sitI (gb :: l) (c0 gb 1) (n0 + ss.length) ∧
      PlayDone l gb cells ss.length ((PQ.start cells ss).runs ss.length ps).1 ((PQ.start cells ss).runs ss.length ps).2 stv ev pv anv fv w w'):=by
  intro c cs _ hkd hcm h1 _
  refine play_a hst ok hm64 hn1 hn64 hM6 hlen herr hi hiF hs hsF (fun w1 sb rz hsb G01 hsb1 hrz1 ts hts=>?_)
  refine play_b hst ok hm64 hn64 hi hiF hsb G01 hsb1 hrz1 (fun w2 rowB rbv nb0 X2 ts hts=>?_) hts
  refine play_b2 hst ok hn64 X2 (fun w3 ansB pb X ts hts=>?_) hts
  have okL:=play_ok (so:=so) (ao:=ao) X hs hn1 hlen herr
  obtain ⟨o1,o2,o3,o4,o5,o6,o7,o8⟩:=X.ord
  have lt0:∀ k,k∈l→k < w.heap.size:=fun k hk=>ok.lt hk
  have foot_low:∀ k,k < w.heap.size→playFoot (playPL so ao ss cells.length nb0 ansB sb pb rbv rowB w3) (play0 cells) k→ScrBlk so ao ss k:=fun k hk hf=>by
    rcases foot0 hf with (h | h | h | h | h) | h | ⟨j,hj,h⟩
    · replace h:k=sb:=h;omega
    · replace h:k=pb:=h;omega
    · replace h:k=rbv:=h;omega
    · replace h:k=rowB:=h;omega
    · exact h
    · replace h:k=ansB:=h;omega
    · replace h:k=nb0 + j:=h;omega
  have hps:NumsAt (playKeep (playPL so ao ss cells.length nb0 ansB sb pb rbv rowB w3) l cells w3) po ps w3:=fun j p hp=>by
    obtain ⟨a,e,hsp,⟨h2,h3⟩,h4⟩:=hpk j p hp
    obtain ⟨_,_,_,h5,_⟩:=cell_some h4
    have hb:(a.add j).block < w.heap.size:=(Array.getElem?_eq_some_iff.1 h5).1
    rw [add_block] at hb
    refine ⟨a,e,hsp,⟨by omega,h2,fun hf=>h3 (foot_low _ hb hf)⟩,?_⟩
    rw [← h4]
    unfold World.cell?
    rw [add_block,X.low _ hb h2]
  refine play_c hst ok old pos hn1 hn64 hM6 X hs hsF okL hps (fun gb tB Γ1 Γ2 steps stv ev pv w4 hup hrun R ts hts=>?_) hts
  refine play_d ok hm64 X okL R (fun fv w5 Z ts hts=>?_) hts
  have hgb:=R.hgb
  have hsz4:=R.size
  have notH:∀ k,w.heap.size≤k→k < w3.heap.size→k ∉ gb :: l:=fun k h1 h2 h=>by
    rcases List.mem_cons.1 h with h | h
    · omega
    · have:=lt0 k h;omega
  have rzK:playKeep (playPL so ao ss cells.length nb0 ansB sb pb rbv rowB w3) l cells w3 rz:=by
    refine ⟨by omega,fun h=>by have:=lt0 _ h;omega,fun hf=>?_⟩
    rcases foot0 hf with (h | h | h | h | h) | h | ⟨j,hj,h⟩
    · replace h:rz=sb:=h;omega
    · replace h:rz=pb:=h;omega
    · replace h:rz=rbv:=h;omega
    · replace h:rz=rowB:=h;omega
    · have:rz < w.heap.size:=h.lt hs hn1;omega
    · replace h:rz=ansB:=h;omega
    · replace hj:j < cells.length:=hj
      replace h:rz=nb0 + j:=h;omega
  have hz5:w5.heap[rz]?=_:=(Z.G.low rz (by omega) (notH _ (by omega) (by omega)) (by omega)).trans ((R.kept rz rzK).trans X.rz_)
  refine play_e (l:=gb :: l) (st:=c0 gb 1) (fun _=>List.mem_cons_self ..) Z.G.ok Z.p (notH _ (by omega) (by omega)) hz5 (notH _ (by omega) (by omega)) rfl rfl (by have e:∀ a b c,(Value.slice a b c).oneCell'=true:=(fun _ _ _=>rfl);simp [ownsRow_one R.st,ownsRow_one R.ev_,ownsRow_one R.pv_,ownsRow_one Z.row,e]) (fun w6 G6 hs6=>?_) hts
  have hsz5:=Z.G.size
  have low46:∀ k,k < w4.heap.size→k ∉ gb :: l→k≠pb→k≠rz→w6.heap[k]?=w4.heap[k]?:=fun k h1 h2 h3 h4=>(G6.low k (by omega) h2 h4).trans (Z.G.low k h1 h2 h3)
  have low4':∀ k,k < w4.heap.size→w3.heap.size≤k→k ∉ gb :: l→w6.heap[k]?=w4.heap[k]?:=fun k h1 h2 h3=>low46 k h1 h3 (by omega) (by omega)
  have avNew:∀ i,i < ss.length→∀ g,(Γ2.av i).ownBlock=some g→w3.heap.size≤g∧g ∉ gb :: l:=fun i hi' g hg=>by
    have hf:playFoot (playPL so ao ss cells.length nb0 ansB sb pb rbv rowB w3) Γ2 g:=.inr (.inr (.inr ⟨i,hi',hg⟩))
    have hgl:g ∉ gb :: l:=fun h=>R.lfoot g h hf
    refine ⟨Nat.le_of_not_lt fun hlt=>R.kpfoot g ⟨hlt,fun h=>hgl (List.mem_cons_of_mem _ h),fun h0=>?_⟩ hf,hgl⟩
    obtain ⟨s1,s2,s3,_⟩:=R.M.sep i hi' g hg
    rcases foot0 h0 with h | h | ⟨j,hj,h⟩
    · exact s1 h
    · exact s2 h
    · exact s3 j hj h
  obtain ⟨hbg,eq,es⟩:=play_plain (L:=playPL so ao ss cells.length nb0 ansB sb pb rbv rowB w3) hup hrun
  replace eq:Γ2.q=((PQ.start cells ss).runs ss.length ps).1:=eq
  replace es:steps=((PQ.start cells ss).runs ss.length ps).2:=es
  rw [← eq,← es] at h1
  have hen:=R.ev_
  rw [endsV_plain hbg] at hen
  have hpa:=R.pv_
  rw [pansV_plain] at hpa
  have hown:∀ g,stv.ownBlock=some g∨ev.ownBlock=some g∨pv.ownBlock=some g→w3.heap.size≤g∧g ∉ gb :: l:=fun g hg=>⟨(R.own g hg).1,(R.own g hg).2.1⟩
  refine h1 _ _ _ ⟨gb,stv,ev,pv,_,fv,rfl,rfl,G6.ok,by omega,?_,fun k hk hkl=>?_,by omega,?_,?_,?_,⟨ansB,Γ2.av,rfl,⟨by omega,notH _ (by omega) (by omega)⟩,?_,fun i hi'=>⟨?_,fun g hg=>⟨by have:=(avNew i hi' g hg).1;omega,(avNew i hi' g hg).2⟩⟩⟩,?_,fun g hg=>?_⟩
  · exact zero_grow (zero_grow R.cnt Z.G (fun _=>List.mem_cons_self ..)) G6 (fun _=>List.mem_cons_self ..)
  · have hkg:k ∉ gb :: l:=fun h=>by
      rcases List.mem_cons.1 h with h | h
      · omega
      · exact hkl h
    refine (low46 k (by omega) hkg (by omega) (by omega)).trans (Eq.trans ?_ (X.low k hk hkl))
    by_cases hf:playFoot (playPL so ao ss cells.length nb0 ansB sb pb rbv rowB w3) (play0 cells) k
    · exact R.M.fixed k (.inr (.inr (.inr (.inr (foot_low k hk hf)))))
    · exact R.kept k ⟨by omega,hkl,hf⟩
  · exact ownsRow_of (fun g hg=>low4' g (ownsRow_lt R.st g hg) (hown g (.inl hg)).1 (hown g (.inl hg)).2) R.st
  · exact ownsRow_of (fun g hg=>low4' g (ownsRow_lt R.ev_ g hg) (hown g (.inr (.inl hg))).1 (hown g (.inr (.inl hg))).2) hen
  · exact ownsRow_of (fun g hg=>low4' g (ownsRow_lt R.pv_ g hg) (hown g (.inr (.inr hg))).1 (hown g (.inr (.inr hg))).2) hpa
  · exact (low46 ansB (by omega) (notH _ (by omega) (by omega)) (by omega) (by omega)).trans R.M.arr
  · exact ownsRow_of (fun g hg=>low4' g (ownsRow_lt (R.M.rows i hi') g hg) (avNew i hi' g hg).1 (avNew i hi' g hg).2) (R.M.rows i hi')
  · exact ownsRow_of (fun g hg=>G6.low g (ownsRow_lt Z.row g hg) (Z.fvO g hg).1 (by have:=(Z.fvO g hg).2.2;omega)) Z.row
  · rcases hg with h | h | h | h
    · exact ⟨by have:=(hown g (.inl h)).1;omega,(hown g (.inl h)).2⟩
    · exact ⟨by have:=(hown g (.inr (.inl h))).1;omega,(hown g (.inr (.inl h))).2⟩
    · exact ⟨by have:=(hown g (.inr (.inr h))).1;omega,(hown g (.inr (.inr h))).2⟩
    · exact ⟨by have:=(Z.fvO g h).2.2;omega,(Z.fvO g h).1⟩
end
end Go.Proofs.Ytndppafplgilbaa
namespace Go.Proofs.Ytndppafplgilbaa
open Go Go.Conc Go.RowKit
open Go.ConcN (sumTo upd sumTo_upd upd_ne upd_same)
def PQ.good (q:PQ):Prop:=∀ i,∀ a∈q.left i,a.k≠-1
theorem PQ.pick_p (n:Nat) (q:PQ) (p:Int):(q.pick n p).2.p=p:=by
  unfold PQ.pick
  split
  · split <;> rfl
  · rfl
theorem PQ.pick_good {n:Nat} {q:PQ} (h:q.good) (p:Int):(q.pick n p).1.good:=by
  unfold PQ.pick
  split
  · split
    · rename_i a r e
      intro i b hb
      by_cases c:i=p.toNat
      · subst c
        simp only [upd_same] at hb
        exact h p.toNat b (by rw [e];exact List.mem_cons_of_mem _ hb)
      · simp only [upd_ne _ _ c] at hb
        exact h i b hb
    · exact h
  · exact h
theorem PQ.pick_idle {n:Nat} {q:PQ} (h:q.good) {p:Int} (hk:(q.pick n p).2.kd=-1):(q.pick n p).1=q:=by
  unfold PQ.pick at hk ⊢
  split at hk
  · rename_i c
    rw [if_pos c]
    split at hk
    · rename_i a r e
      exact absurd hk (h p.toNat a (by rw [e];exact List.mem_cons_self ..))
    · rfl
  · rename_i c
    rw [if_neg c]
theorem PQ.runs_len (n:Nat):∀ (ps:List Int) (q:PQ),(q.runs n ps).2.length=ps.length
  | [],_=>rfl
  | p :: ps,q=>by simp [PQ.runs,PQ.runs_len n ps]
theorem PQ.runs_take (n:Nat):∀ (ps:List Int) (q:PQ) (k:Nat),(q.runs n (ps.take k)).2=(q.runs n ps).2.take k
  | [],_,k=>by simp [PQ.runs]
  | p :: ps,q,0=>by simp [PQ.runs]
  | p :: ps,q,k + 1=>by simp [PQ.runs,PQ.runs_take n ps]
def worked (l:List Stp):List Stp:=l.filter fun s=>s.kd != -1
theorem worked_thin (l:List Stp):thin (worked l)=thin l:=by
  unfold thin worked
  rw [List.filter_filter]
  simp
theorem worked_len (l:List Stp):(worked l).length=(thin l).length:=by simp [thin,worked]
theorem PQ.runs_thin (n:Nat):∀ (ps:List Int) (q:PQ),q.good→q.runs n (thin (q.runs n ps).2)=((q.runs n ps).1,worked (q.runs n ps).2)
  | [],q,_=>rfl
  | p :: ps,q,h=>by
    have ih:=PQ.runs_thin n ps (q.pick n p).1 (PQ.pick_good h p)
    have e:(q.runs n (p :: ps)).2=(q.pick n p).2 :: ((q.pick n p).1.runs n ps).2:=rfl
    have e1:(q.runs n (p :: ps)).1=((q.pick n p).1.runs n ps).1:=rfl
    rw [e,e1]
    by_cases c:(q.pick n p).2.kd=-1
    · have hq:=PQ.pick_idle h c
      have t1:thin ((q.pick n p).2 :: ((q.pick n p).1.runs n ps).2)=thin ((q.pick n p).1.runs n ps).2:=by unfold thin;rw [List.filter_cons_of_neg (by simp [c])]
      have t2:worked ((q.pick n p).2 :: ((q.pick n p).1.runs n ps).2)=worked ((q.pick n p).1.runs n ps).2:=by unfold worked;rw [List.filter_cons_of_neg (by simp [c])]
      rw [t1,t2,← ih,hq]
    · have t1:thin ((q.pick n p).2 :: ((q.pick n p).1.runs n ps).2)=p :: thin ((q.pick n p).1.runs n ps).2:=by
        unfold thin
        rw [List.filter_cons_of_pos (by simp [c]),List.map_cons,PQ.pick_p]
      have t2:worked ((q.pick n p).2 :: ((q.pick n p).1.runs n ps).2)=(q.pick n p).2 :: worked ((q.pick n p).1.runs n ps).2:=by unfold worked;rw [List.filter_cons_of_pos (by simp [c])]
      rw [t1,t2]
      show (((q.pick n p).1.runs n (thin ((q.pick n p).1.runs n ps).2)).1,_ :: ((q.pick n p).1.runs n (thin ((q.pick n p).1.runs n ps).2)).2)=_
      rw [ih]
theorem good_start {cells:List Int}:∀ {ss:List (List A4)},scriptsErr cells.length ss=0→(PQ.start cells ss).good:=by
  have key:∀ (ss:List (List A4)),scriptsErr cells.length ss=0→∀ s∈ss,∀ a∈s,a.k≠-1:=by
    intro ss
    induction ss with
    | nil=>intro _ s hs;cases hs
    | cons s r ih =>
      intro h t ht a ha
      unfold scriptsErr at h
      split at h
      · rename_i hc
        cases ht with
        | head =>
          have:=checkNums_ok _ _ hc a ha
          omega
        | tail _ hm=>exact ih h t hm a ha
      · rename_i hc;exact absurd h hc
  intro ss h i a ha
  have hg:(PQ.start cells ss).left i=ss.getD i []:=rfl
  rw [hg] at ha
  by_cases c:i < ss.length
  · rw [List.getD_eq_getElem?_getD,List.getElem?_eq_getElem c] at ha
    exact key ss h _ (List.getElem_mem c) a ha
  · rw [List.getD_eq_getElem?_getD,List.getElem?_eq_none (by omega)] at ha
    cases ha
end Go.Proofs.Ytndppafplgilbaa
