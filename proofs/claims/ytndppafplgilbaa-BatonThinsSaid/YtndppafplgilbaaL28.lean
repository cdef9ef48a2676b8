/-
  larchlaw04.BatonThins returns true for every input. No condition. (Part 28 of 49; joined by program.)
-/
import Derived.Test.YtndppafplgilbaaL06
import Derived.Test.YtndppafplgilbaaL26
import Derived.Test.YtndppafplgilbaaL27
import Derived.Deep.RegionHeld3
import Derived.Deep.AppendLies
set_option linter.unusedVariables false
set_option linter.unusedSimpArgs false
set_option linter.unusedSectionVars false
set_option maxRecDepth 100000
namespace Go.Proofs.Ytndppafplgilbaa
open Go Go.RowKit
def scriptsErr (cells:Int):List (List A4)→Int
  | []=>0
  | s :: r=>if checkNums cells s=0 then scriptsErr cells r else checkNums cells s
theorem scriptsErr_cons (cells:Int) (ss:List (List A4)) (j:Nat) (h:j < ss.length):scriptsErr cells (ss.drop j)=if checkNums cells ss[j]=0 then scriptsErr cells (ss.drop (j + 1)) else checkNums cells ss[j]:=by
  rw [List.drop_eq_getElem_cons h]
  rfl
abbrev zeroPlayed:Array Value:=#[.slice none 0 0,.slice none 0 0,.slice none 0 0,.slice none 0 0,.slice none 0 0]
structure ScriptsIn (w:World) (so:Option Addr) (ao:Nat→Option Addr) (acap:Nat→Nat) (ss:List (List A4)):Prop where
  at_:∀ j (h:j < ss.length),∃ b off,so=some ⟨b,off,none⟩∧w.cell? ⟨b,off + j,none⟩=some (.slice (ao j) ss[j].length (acap j))
  acts:∀ j (h:j < ss.length),ActsIn w (ao j) ss[j]
theorem ScriptsIn.below {w w':World} {so:Option Addr} {ao:Nat→Option Addr} {acap:Nat→Nat} {ss:List (List A4)} (h:ScriptsIn w so ao acap ss) (hb:Below w.heap.size w w'):ScriptsIn w' so ao acap ss:=by
  refine ⟨fun j hj=>?_,fun j hj=>(h.acts j hj).below hb⟩
  obtain ⟨b,off,e,h1⟩:=h.at_ j hj
  exact ⟨b,off,e,by rw [cell_of_block (hb.block b (World.block_lt_of_cell? w ⟨b,off + j,none⟩ h1))];exact h1⟩
noncomputable def playBlk0:Code:=seqR (seqL (seqR (seqR (seqR (Try.f14.body.getD .skip)))))
noncomputable def playBlk2:Code:=seqR (seqL (seqR (seqR (seqR (seqR (seqR (Try.f14.body.getD .skip)))))))
noncomputable def playTail:Code:=seqR (seqR (seqR (seqR (seqR (seqR (seqR (seqR (Try.f14.body.getD .skip))))))))
set_option maxHeartbeats 4000000 in
theorem play_blk0 {m n M cc scap pcap sb rz:Nat} {ca so po:Option Addr} {ao:Nat→Option Addr} {acap:Nat→Nat} {cells:List Int} {ss:List (List A4)} (hm:cells.length=m) (hn:ss.length=n) (hm64:m≤64) (hn64:n≤64) (hlen:∀ s∈ss,s.length≤1000) (w:World) (hi:IntsIn w ca cells) (hs:ScriptsIn w so ao acap ss) (hz:w.heap[rz]?=some (.cells zeroPlayed 38 (0,0))) :
    ∀ y3 y5 y8 y9 y10 y11 y12 y13 y14 y15 y16 y17 y18 y19 y20 y21 y22 y23 y24 y25 y26 y27 y28 y29 y30 y31 y32 y33 y34 y35 y36 y37 y38 y42 y43 y44 y45 y46 y47 y48 y49 y50 y51 y52 y53 y54 y55 y56 y57 y58 y59 y60 y61 y62 y63 y64 y65 y66 y67 y68 y69 y70 y71 y72 y73 y74 y75 y76 y77 y78 y79 y80 y81 y82 y83 y84 y85 y86 y87 y88 y89 y90 y91 y92 y93 y94 y95 y96 y97 y98 y99 y100 y101 y102 y103:Value,playBlk0.wp Try.prog (fun e a u=>(e=.normal∨e=.ret)∧a.defers=[]∧((∀ k,k < w.heap.size→k≠rz→u.heap[k]?=w.heap[k]?)∧u.heap[rz]?=some (.cells zeroPlayed 38 (0,0))∧((e=.normal∧scriptsErr m ss=0∧∃ z3 z5 z8 z9 z10 z11 z12 z13 z14 z15 z16 z17 z18 z19 z20 z21 z22 z23 z24 z25 z26 z27 z28 z29 z30 z31 z32 z33 z34 z35 z36 z37 z38 z39 z40 z41 z42 z43 z44 z45 z46 z47 z48 z49 z50 z51 z52 z53 z54 z55 z56 z57 z58 z59 z60 z61 z62 z63 z64 z65 z66 z67 z68 z69 z70 z71 z72 z73 z74 z75 z76 z77 z78 z79 z80 z81 z82 z83 z84 z85 z86 z87 z88 z89 z90 z91 z92 z93 z94 z95 z96 z97 z98 z99 z100 z101 z102 z103:Value,a.tmps=#[.slice ca m cc,.slice so n scap,.slice po M pcap,z3,.pointer (some ⟨sb,0,none⟩),z5,.pointer (some ⟨rz,0,none⟩),.int .i64 0,z8,z9,z10,z11,z12,z13,z14,z15,z16,z17,z18,z19,z20,z21,z22,z23,z24,z25,z26,z27,z28,z29,z30,z31,z32,z33,z34,z35,z36,z37,z38,z39,z40,z41,z42,z43,z44,z45,z46,z47,z48,z49,z50,z51,z52,z53,z54,z55,z56,z57,z58,z59,z60,z61,z62,z63,z64,z65,z66,z67,z68,z69,z70,z71,z72,z73,z74,z75,z76,z77,z78,z79,z80,z81,z82,z83,z84,z85,z86,z87,z88,z89,z90,z91,z92,z93,z94,z95,z96,z97,z98,z99,z100,z101,z102,z103])∨(e=.ret∧scriptsErr m ss≠0∧∃ z3 z5 z8 z9 z10 z11 z12 z13 z14 z15 z16 z17 z18 z19 z20 z21 z22 z23 z24 z25 z26 z27 z28 z29 z30 z31 z32 z33 z34 z35 z36 z37 z38 z39 z40 z41 z42 z43 z44 z45 z46 z47 z48 z49 z50 z51 z52 z53 z54 z55 z56 z57 z58 z59 z60 z61 z62 z63 z64 z65 z66 z67 z68 z69 z70 z71 z72 z73 z74 z75 z76 z77 z78 z79 z80 z81 z82 z83 z84 z85 z86 z87 z88 z89 z90 z91 z92 z93 z94 z95 z96 z97 z98 z99 z100 z101 z102 z103:Value,a.tmps=#[.slice ca m cc,.slice so n scap,.slice po M pcap,z3,.pointer (some ⟨sb,0,none⟩),z5,.pointer (some ⟨rz,0,none⟩),.int .i64 (scriptsErr m ss),z8,z9,z10,z11,z12,z13,z14,z15,z16,z17,z18,z19,z20,z21,z22,z23,z24,z25,z26,z27,z28,z29,z30,z31,z32,z33,z34,z35,z36,z37,z38,z39,z40,z41,z42,z43,z44,z45,z46,z47,z48,z49,z50,z51,z52,z53,z54,z55,z56,z57,z58,z59,z60,z61,z62,z63,z64,z65,z66,z67,z68,z69,z70,z71,z72,z73,z74,z75,z76,z77,z78,z79,z80,z81,z82,z83,z84,z85,z86,z87,z88,z89,z90,z91,z92,z93,z94,z95,z96,z97,z98,z99,z100,z101,z102,z103])))) ⟨#[.slice ca m cc,.slice so n scap,.slice po M pcap,y3,.pointer (some ⟨sb,0,none⟩),y5,.pointer (some ⟨rz,0,none⟩),.int .i64 0,y8,y9,y10,y11,y12,y13,y14,y15,y16,y17,y18,y19,y20,y21,y22,y23,y24,y25,y26,y27,y28,y29,y30,y31,y32,y33,y34,y35,y36,y37,y38,.slice so n scap,.int .i64 (n:Int),.int .i64 0,y42,y43,y44,y45,y46,y47,y48,y49,y50,y51,y52,y53,y54,y55,y56,y57,y58,y59,y60,y61,y62,y63,y64,y65,y66,y67,y68,y69,y70,y71,y72,y73,y74,y75,y76,y77,y78,y79,y80,y81,y82,y83,y84,y85,y86,y87,y88,y89,y90,y91,y92,y93,y94,y95,y96,y97,y98,y99,y100,y101,y102,y103],[]⟩ w:=by
  intro y3 y5 y8 y9 y10 y11 y12 y13 y14 y15 y16 y17 y18 y19 y20 y21 y22 y23 y24 y25 y26 y27 y28 y29 y30 y31 y32 y33 y34 y35 y36 y37 y38 y42 y43 y44 y45 y46 y47 y48 y49 y50 y51 y52 y53 y54 y55 y56 y57 y58 y59 y60 y61 y62 y63 y64 y65 y66 y67 y68 y69 y70 y71 y72 y73 y74 y75 y76 y77 y78 y79 y80 y81 y82 y83 y84 y85 y86 y87 y88 y89 y90 y91 y92 y93 y94 y95 y96 y97 y98 y99 y100 y101 y102 y103
  simp only [playBlk0,seqL,seqR,Option.getD_some,Try.f14]
  have Hi:=Lib.hid hi
  have Hs:=Lib.hid hs
  have Hz:=Lib.hid hz
  clear hi hs hz
  go_wp2_with fail
  go_loopw [7,41] (fun e i wr=>∃ j:Nat,j≤n∧e=.int .i64 0∧i=.int .i64 j∧Below w.heap.size w wr∧Hid (scriptsErr m (ss.drop j)=scriptsErr m ss)) (fun _ i _=>n - (intOf i).toNat)
  case atStart=>exact ⟨0,Nat.zero_le _,rfl,rfl,Below.refl _ _,rfl⟩
  case round =>
    obtain ⟨j,hj,rfl,rfl,hb,hspec⟩:=hrel
    by_cases hlt:j < n
    · obtain ⟨b,off,rfl,hc⟩:=(Hs.out.below hb).at_ j (by omega)
      have Ha:=Lib.hid ((Hs.out.below hb).acts j (by omega))
      have Hi1:=Lib.hid (Hi.out.below hb)
      have Hl:=Lib.hid (hlen ss[j] (List.getElem_mem _))
      have Hsp:=Lib.hid ((scriptsErr_cons m ss j (by omega)).symm.trans hspec.out)
      have hz1:wr.heap[rz]?=some (.cells zeroPlayed 38 (0,0)):=by rw [hb.block rz (Array.getElem?_eq_some_iff.1 Hz.out).1];exact Hz.out
      have Hz1:=Lib.hid hz1
      have Hb:=Lib.hid hb
      clear hspec hb hz1
      have hne:numsErr cells ss[j]=checkNums m ss[j]:=by
        rw [numsErr,if_neg (by have:=Hl.out;omega),hm]
      have Hne:=Lib.hid hne
      clear hne
      by_cases hk:checkNums m ss[j]=0
      · have hk0:numsErr cells ss[j]=0:=by rw [Hne.out];exact hk
        have Hk:=Lib.hid hk
        clear hk
        go_wp2_with (go_at_call 49;rw [← hm];refine (nums_any _ _ _ _ cells ss[j] _ Ha.out Hi1.out).mono ?_;rintro e w1 ⟨v1,v2,v3,rfl,r1,r2,r3,hb1,_⟩;rw [hk0,hm];have Hb1:=Lib.hid hb1;clear r1 r2 r3 hb1)
        go_roundw
        case rel=>exact ⟨j + 1,by omega,rfl,by go_num,Hb.out.trans (Hb1.out.mono Hb.out.size),by have:=Hsp.out;rw [if_pos Hk.out] at this;exact this⟩
        case measure=>simp [intOf];omega
      · have hk':(checkNums m ss[j] != 0)=true:=by rw [bne_iff_ne];exact hk
        have Hk:=Lib.hid hk
        have Hk':=Lib.hid hk'
        clear hk hk'
        go_wp2_with (go_at_call 49;rw [← hm];refine (nums_any _ _ _ _ cells ss[j] _ Ha.out Hi1.out).mono ?_;rintro e w1 ⟨v1,v2,v3,rfl,r1,r2,r3,hb1,_⟩;rw [Hne.out,hm];have hk':=Hk'.out;have hz2:w1.heap[rz]?=some (.cells zeroPlayed 38 (0,0)):=(by rw [hb1.block rz (Array.getElem?_eq_some_iff.1 Hz1.out).1];exact Hz1.out);have Hb1:=Lib.hid hb1;have Hz2:=Lib.hid hz2;have hc0:w1.cell? ⟨rz,0,none⟩=some (.slice none 0 0):=cell_of_heap hz2 (j:=0) rfl;have hf0:w1.frozen? ⟨rz,0,none⟩=false:=frozen_of_heap hz2 (j:=0);have hs0:w1.setCell ⟨rz,0,none⟩ (.slice none 0 0)=w1:=setCell_keep hc0;have hc1:w1.cell? ⟨rz,1,none⟩=some (.slice none 0 0):=cell_of_heap hz2 (j:=1) rfl;have hf1:w1.frozen? ⟨rz,1,none⟩=false:=frozen_of_heap hz2 (j:=1);have hs1:w1.setCell ⟨rz,1,none⟩ (.slice none 0 0)=w1:=setCell_keep hc1;have hc2:w1.cell? ⟨rz,2,none⟩=some (.slice none 0 0):=cell_of_heap hz2 (j:=2) rfl;have hf2:w1.frozen? ⟨rz,2,none⟩=false:=frozen_of_heap hz2 (j:=2);have hs2:w1.setCell ⟨rz,2,none⟩ (.slice none 0 0)=w1:=setCell_keep hc2;have hc3:w1.cell? ⟨rz,3,none⟩=some (.slice none 0 0):=cell_of_heap hz2 (j:=3) rfl;have hf3:w1.frozen? ⟨rz,3,none⟩=false:=frozen_of_heap hz2 (j:=3);have hs3:w1.setCell ⟨rz,3,none⟩ (.slice none 0 0)=w1:=setCell_keep hc3;have hc4:w1.cell? ⟨rz,4,none⟩=some (.slice none 0 0):=cell_of_heap hz2 (j:=4) rfl;have hf4:w1.frozen? ⟨rz,4,none⟩=false:=frozen_of_heap hz2 (j:=4);have hs4:w1.setCell ⟨rz,4,none⟩ (.slice none 0 0)=w1:=setCell_keep hc4;clear r1 r2 r3 hb1 hz2)
        have hsp:=Hsp.out
        rw [if_neg Hk.out] at hsp
        exact ⟨.inr rfl,rfl,fun k hk _=>(Hb1.out.block k (Nat.lt_of_lt_of_le hk Hb.out.size)).trans (Hb.out.block k hk),Hz2.out,.inr ⟨rfl,by rw [← hsp];exact Hk.out,by rw [← hsp];exact ⟨_,_,_,_,_,_,_,_,_,_,_,_,_,_,_,_,_,_,_,_,_,_,_,_,_,_,_,_,_,_,_,_,_,_,_,_,_,_,_,_,_,_,_,_,_,_,_,_,_,_,_,_,_,_,_,_,_,_,_,_,_,_,_,_,_,_,_,_,_,_,_,_,_,_,_,_,_,_,_,_,_,_,_,_,_,_,_,_,_,_,_,_,_,_,_,_,_,_,rfl⟩⟩⟩
    · obtain rfl:j=n:=by omega
      have he:ss.drop ss.length=[]:=List.drop_length
      have hs:=hspec.out
      subst hn
      rw [he] at hs
      go_wp2
      exact ⟨.inl rfl,rfl,fun k hk _=>hb.block k hk,by rw [hb.block rz (Array.getElem?_eq_some_iff.1 Hz.out).1];exact Hz.out,.inl ⟨rfl,by rw [← hs];rfl,⟨_,_,_,_,_,_,_,_,_,_,_,_,_,_,_,_,_,_,_,_,_,_,_,_,_,_,_,_,_,_,_,_,_,_,_,_,_,_,_,_,_,_,_,_,_,_,_,_,_,_,_,_,_,_,_,_,_,_,_,_,_,_,_,_,_,_,_,_,_,_,_,_,_,_,_,_,_,_,_,_,_,_,_,_,_,_,_,_,_,_,_,_,_,_,_,_,_,_,rfl⟩⟩⟩
end Go.Proofs.Ytndppafplgilbaa
namespace Go.Proofs.Ytndppafplgilbaa
open Go Go.RowKit
structure RowAt (w:World) (rowB nb m j:Nat) (cells:List Int) (wr:World):Prop where
  low:∀ k,k < w.heap.size→k≠rowB→wr.heap[k]?=w.heap[k]?
  size:wr.heap.size=nb + j
  base:nb=w.heap.size
  row:∃ c:Array Value,wr.heap[rowB]?=some (.cells c 72 (0,0))∧c.size=m∧∀ i,i < j→c[i]?=some (.pointer (some ⟨nb + i,0,none⟩))
  nums:∀ (i:Nat) (h:i < cells.length),i < j→wr.heap[nb + i]?=some (.cells #[.int .i64 cells[i]] 139 (0,0))
theorem RowAt.push {w wr:World} {rowB nb m j:Nat} {cells:List Int} (h:RowAt w rowB nb m j cells wr) (hm:cells.length=m) (hj:j < m) (hr:rowB < w.heap.size) :
    RowAt w rowB nb m (j + 1) cells ((wr.alloc (.cells #[.int .i64 (cells[j]'(by omega))] 139)).setCell ⟨rowB,j,none⟩ (.pointer (some ⟨wr.heap.size,0,none⟩))):=by
  obtain ⟨c,h1,h2,h3⟩:=h.row
  have hs:=h.size
  have hb:=h.base
  have h1':(wr.alloc (.cells #[.int .i64 (cells[j]'(by omega))] 139)).heap[rowB]?=some (.cells c 72 (0,0)):=(Turns.alloc (fun _=>False) wr _).heap h1 (fun h=>h)
  refine ⟨fun k hk hne=>?_,by simp [World.setCell];omega,hb,⟨_,heap_setCell h1' _,by simpa using h2,fun i hi=>?_⟩,fun i hi hij=>?_⟩
  · rw [heap_setCell_ne hne,heap_alloc_old _ _ (by omega)];exact h.low k hk hne
  · by_cases e:i=j
    · subst e
      rw [Array.getElem?_setIfInBounds_self,hs]
      simp [h2,hj]
    · rw [Array.getElem?_setIfInBounds_ne (fun h=>e h.symm)]
      exact h3 i (by omega)
  · rw [heap_setCell_ne (by omega)]
    by_cases e:i=j
    · subst e
      rw [← hs]
      exact heap_alloc_new wr _
    · exact (Turns.alloc (fun _=>False) wr _).heap (h.nums i hi (by omega)) (fun h=>h)
set_option maxHeartbeats 4000000 in
theorem play_blk2 {m n M cc scap pcap sb rz rbv rowB:Nat} {ca so po:Option Addr} {cells:List Int} (hm:cells.length=m) (hm64:m≤64) (w:World) (hi:IntsIn w ca cells) (hib:∀ b off,ca=some ⟨b,off,none⟩→cells≠[]→b≠rowB) (hrv:w.heap[rbv]?=some (.cells #[.slice (some ⟨rowB,0,none⟩) m m] 57 (0,0))) (hrow:w.heap[rowB]?=some (.cells (mkRow (.pointer none) m) 72 (0,0))) :
    ∀ y3 y5 y8 y9 y10 y11 y12 y13 y14 y16 y17 y18 y19 y20 y21 y22 y23 y24 y25 y26 y27 y28 y29 y30 y31 y32 y33 y34 y35 y36 y37 y38 y39 y40 y41 y42 y43 y44 y45 y46 y47 y48 y49 y50 y51 y52 y53 y54 y55 y56 y57 y58 y59 y60 y64 y65 y66 y67 y68 y69 y70 y71 y72 y73 y74 y75 y76 y77 y78 y79 y80 y81 y82 y83 y84 y85 y86 y87 y88 y89 y90 y91 y92 y93 y94 y95 y96 y97 y98 y99 y100 y101 y102 y103:Value,playBlk2.wp Try.prog (fun e a u=>e=.normal∧a.defers=[]∧RowAt w rowB w.heap.size m m cells u∧∃ z3 z5 z8 z9 z10 z11 z12 z13 z14 z16 z17 z18 z19 z20 z21 z22 z23 z24 z25 z26 z27 z28 z29 z30 z31 z32 z33 z34 z35 z36 z37 z38 z39 z40 z41 z42 z43 z44 z45 z46 z47 z48 z49 z50 z51 z52 z53 z54 z55 z56 z57 z58 z59 z60 z61 z62 z63 z64 z65 z66 z67 z68 z69 z70 z71 z72 z73 z74 z75 z76 z77 z78 z79 z80 z81 z82 z83 z84 z85 z86 z87 z88 z89 z90 z91 z92 z93 z94 z95 z96 z97 z98 z99 z100 z101 z102 z103:Value,a.tmps=#[.slice ca m cc,.slice so n scap,.slice po M pcap,z3,.pointer (some ⟨sb,0,none⟩),z5,.pointer (some ⟨rz,0,none⟩),.int .i64 0,z8,z9,z10,z11,z12,z13,z14,.pointer (some ⟨rbv,0,none⟩),z16,z17,z18,z19,z20,z21,z22,z23,z24,z25,z26,z27,z28,z29,z30,z31,z32,z33,z34,z35,z36,z37,z38,z39,z40,z41,z42,z43,z44,z45,z46,z47,z48,z49,z50,z51,z52,z53,z54,z55,z56,z57,z58,z59,z60,z61,z62,z63,z64,z65,z66,z67,z68,z69,z70,z71,z72,z73,z74,z75,z76,z77,z78,z79,z80,z81,z82,z83,z84,z85,z86,z87,z88,z89,z90,z91,z92,z93,z94,z95,z96,z97,z98,z99,z100,z101,z102,z103]) ⟨#[.slice ca m cc,.slice so n scap,.slice po M pcap,y3,.pointer (some ⟨sb,0,none⟩),y5,.pointer (some ⟨rz,0,none⟩),.int .i64 0,y8,y9,y10,y11,y12,y13,y14,.pointer (some ⟨rbv,0,none⟩),y16,y17,y18,y19,y20,y21,y22,y23,y24,y25,y26,y27,y28,y29,y30,y31,y32,y33,y34,y35,y36,y37,y38,y39,y40,y41,y42,y43,y44,y45,y46,y47,y48,y49,y50,y51,y52,y53,y54,y55,y56,y57,y58,y59,y60,.slice ca m cc,.int .i64 (m:Int),.int .i64 0,y64,y65,y66,y67,y68,y69,y70,y71,y72,y73,y74,y75,y76,y77,y78,y79,y80,y81,y82,y83,y84,y85,y86,y87,y88,y89,y90,y91,y92,y93,y94,y95,y96,y97,y98,y99,y100,y101,y102,y103],[]⟩ w:=by
  intro y3 y5 y8 y9 y10 y11 y12 y13 y14 y16 y17 y18 y19 y20 y21 y22 y23 y24 y25 y26 y27 y28 y29 y30 y31 y32 y33 y34 y35 y36 y37 y38 y39 y40 y41 y42 y43 y44 y45 y46 y47 y48 y49 y50 y51 y52 y53 y54 y55 y56 y57 y58 y59 y60 y64 y65 y66 y67 y68 y69 y70 y71 y72 y73 y74 y75 y76 y77 y78 y79 y80 y81 y82 y83 y84 y85 y86 y87 y88 y89 y90 y91 y92 y93 y94 y95 y96 y97 y98 y99 y100 y101 y102 y103
  simp only [playBlk2,seqL,seqR,Option.getD_some,Try.f14]
  have hne:rbv≠rowB:=fun e=>by
    subst e
    rw [hrv] at hrow
    injection hrow with h
    injection h with _ h
    exact absurd h (by decide)
  have hrl:=(Array.getElem?_eq_some_iff.1 hrow).1
  have hr0:RowAt w rowB w.heap.size m 0 cells w:=⟨fun _ _ _=>rfl,rfl,rfl,⟨_,hrow,mkRow_size _ _,fun i hi=>(by omega)⟩,fun i _ hi=>(by omega)⟩
  have Hi:=Lib.hid hi
  have Hib:=Lib.hid hib
  have Hv:=Lib.hid hrv
  have H0:=Lib.hid hr0
  have Hne:=Lib.hid hne
  have Hrl:=Lib.hid hrl
  clear hi hib hrv hrow hr0 hne hrl
  go_wp2_with fail
  go_loopw [63] (fun i wr=>∃ j:Nat,j≤m∧i=.int .i64 j∧RowAt w rowB w.heap.size m j cells wr) (fun i _=>m - (intOf i).toNat)
  case atStart=>exact ⟨0,Nat.zero_le _,rfl,H0.out⟩
  case round =>
    obtain ⟨j,hj,rfl,hR⟩:=hrel
    by_cases hlt:j < m
    · obtain ⟨b,off,rfl,hcell⟩:=Hi.out j (by omega)
      have hbl:=World.block_lt_of_cell? w ⟨b,off + j,none⟩ hcell
      have hc1:wr.cell? ⟨b,off + j,none⟩=some (.int .i64 cells[j]):=by rw [cell_of_block (hR.low b hbl (Hib.out b off rfl (fun e=>by rw [e] at hm;simp at hm;omega)))];exact hcell
      have hv1:wr.heap[rbv]?=some (.cells #[.slice (some ⟨rowB,0,none⟩) m m] 57 (0,0)):=(hR.low rbv (Array.getElem?_eq_some_iff.1 Hv.out).1 Hne.out).trans Hv.out
      have hcv:wr.cell? ⟨rbv,0,none⟩=some (.slice (some ⟨rowB,0,none⟩) m m):=cell_of_heap hv1 rfl
      obtain ⟨c,g1,g2,g3⟩:=hR.row
      have hg1:∀ o,(wr.alloc o).heap[rowB]?=some (.cells c 72 (0,0)):=fun o=>(Turns.alloc (fun _=>False) wr o).heap g1 (fun h=>h)
      obtain ⟨u,hu⟩:∃ u,c[j]?=some u:=⟨_,Array.getElem?_eq_getElem (by omega)⟩
      have hcj:∀ o,(wr.alloc o).cell? ⟨rowB,j,none⟩=some u:=fun o=>cell_of_heap (hg1 o) hu
      have hfj:∀ o,(wr.alloc o).frozen? ⟨rowB,j,none⟩=false:=fun o=>frozen_of_heap (hg1 o)
      have hcv2:∀ o,(wr.alloc o).cell? ⟨rbv,0,none⟩=some (.slice (some ⟨rowB,0,none⟩) m m):=fun o=>cell_of_heap ((Turns.alloc (fun _=>False) wr o).heap hv1 (fun h=>h)) rfl
      have hcv3:∀ (w1:World) (o:Obj) (v:Value),w1.heap=wr.heap→((w1.alloc o).setCell ⟨rowB,j,none⟩ v).cell? ⟨rbv,0,none⟩=some (.slice (some ⟨rowB,0,none⟩) m m):=fun w1 o v e=>by
        refine cell_of_heap (b:=rbv) (c:=#[.slice (some ⟨rowB,0,none⟩) m m]) (e:=57) (f:=(0,0)) ?_ rfl
        rw [heap_setCell_ne Hne.out]
        exact (Turns.alloc (fun _=>False) w1 o).heap (by rw [e];exact hv1) (fun h=>h)
      have HR:=Lib.hid hR
      have Hcv:=Lib.hid hcv2
      clear hR hcell hv1 g1 g2 g3 hg1 hu hcv2
      have test:((wr.alloc (.cells #[.int .i64 cells[j]] 139)).setCell ⟨rowB,j,none⟩ (.pointer (some ⟨wr.heap.size,0,none⟩))).drew.cell? ⟨rbv,0,none⟩=some (.slice (some ⟨rowB,0,none⟩) m m):=hcv3 wr _ _ rfl
      clear hcv3
      go_wp2_with fail
      go_region_held3 (fun w'=>w'.cell? ⟨rbv,0,none⟩=some (.slice (some ⟨rowB,0,none⟩) m m)) (first | go_keep | exact Hcv.out _) (first | (go_at_call 30;refine (newnum_any _ _).mono ?_;rintro e w2 ⟨rfl,rfl⟩))
      clear test
      have HR1:=Lib.hid (HR.out.push hm hlt Hrl.out)
      go_wp2_with fail
      go_roundw
      case rel=>exact ⟨j + 1,by omega,by go_num,⟨HR1.out.low,HR1.out.size,HR1.out.base,HR1.out.row,HR1.out.nums⟩⟩
      case measure=>simp [intOf];omega
    · obtain rfl:j=m:=by omega
      go_wp2
      exact ⟨rfl,rfl,hR,⟨_,_,_,_,_,_,_,_,_,_,_,_,_,_,_,_,_,_,_,_,_,_,_,_,_,_,_,_,_,_,_,_,_,_,_,_,_,_,_,_,_,_,_,_,_,_,_,_,_,_,_,_,_,_,_,_,_,_,_,_,_,_,_,_,_,_,_,_,_,_,_,_,_,_,_,_,_,_,_,_,_,_,_,_,_,_,_,_,_,_,_,_,_,_,_,_,_,rfl⟩⟩
end Go.Proofs.Ytndppafplgilbaa
namespace Go.Proofs.Ytndppafplgilbaa
open Go.RowKit
def StepsIn (w:World) (a:Option Addr) (l:List Stp):Prop:=∀ (j:Nat) (h:j < l.length),∃ b off,a=some ⟨b,off,none⟩∧w.cell? ⟨b,off + j * 3,none⟩=some (.int .i64 l[j].p)∧w.cell? ⟨b,off + j * 3 + 1,none⟩=some (.int .i64 l[j].kd)∧w.cell? ⟨b,off + j * 3 + 2,none⟩=some (.bool l[j].en)
theorem StepsIn.below {w w':World} {a:Option Addr} {l:List Stp} (h:StepsIn w a l) (hb:Below w.heap.size w w'):StepsIn w' a l:=fun j hj=>by
  obtain ⟨b,off,e,h1,h2,h3⟩:=h j hj
  have hl:=hb.block b (World.block_lt_of_cell? w ⟨b,off + j * 3,none⟩ h1)
  exact ⟨b,off,e,by rw [cell_of_block hl];exact h1,by rw [cell_of_block hl];exact h2,by rw [cell_of_block hl];exact h3⟩
def thin (l:List Stp):List Int:=(l.filter fun s=>s.kd != -1).map (·.p)
theorem thin_snoc (l:List Stp) (s:Stp):thin (l ++ [s])=thin l ++ if s.kd=-1 then [] else [s.p]:=by
  unfold thin
  rw [List.filter_append,List.map_append]
  by_cases c:s.kd=-1 <;> simp [c]
theorem thin_le (l:List Stp):(thin l).length≤l.length:=by
  unfold thin;rw [List.length_map];exact List.length_filter_le ..
end Go.Proofs.Ytndppafplgilbaa
namespace Go.Proofs.Ytndppafplgilbaa
open Go.RowKit
set_option maxHeartbeats 1000000 in
theorem thin_any (a:Option Addr) (cap:Nat) (l:List Stp) (w:World) (hn:l.length * 8≤140737488351232) (hr:StepsIn w a l) :
    Calls Try.prog 19 #[.slice a l.length cap] w fun e w'=>∃ v,e=.returned v∧w'.ownsRow w.heap.size 3 1 v (thin l).length ((thin l).map (Value.int .i64))∧Below w.heap.size w w':=by
  obtain ⟨i0,hi0,hz0,hz1,hz2⟩:=info_parts info_int
  have Hr:=Lib.hid hr
  clear hr
  go_enter Try.func19,Try.ntmps19
  go_wp2_with fail
  go_loopw [3,8] (fun v i wr=>∃ j:Nat,j≤l.length∧i=.int .i64 j∧Below w.heap.size w wr∧wr.ownsRow w.heap.size 3 1 v (thin (l.take j)).length ((thin (l.take j)).map (Value.int .i64))) (fun _ i _=>l.length - (intOf i).toNat)
  case atStart=>exact ⟨0,Nat.zero_le _,rfl,Below.refl _ _,World.ownsRow_nil _ _ _ _⟩
  case round =>
    obtain ⟨j,hj,rfl,hb,hown⟩:=hrel
    by_cases hlt:j < l.length
    · obtain ⟨b,off,rfl,h1,h2,h3⟩:=(Hr.out.below hb) j hlt
      have hbs:=hb.size
      have Hb:=Lib.hid hb
      have Ho:=Lib.hid hown
      have Hl:=Lib.hid (thin_le (l.take j))
      have Hs:=Lib.hid (show thin (l.take (j + 1))=thin (l.take j) ++ if l[j].kd=-1 then [] else [l[j].p] by rw [List.take_succ_eq_append_getElem hlt,thin_snoc])
      clear hb hown
      by_cases hk:l[j].kd=-1
      · have hk':(l[j].kd != -1)=false:=by rw [hk];rfl
        go_wp2_with fail
        go_roundw
        case rel =>
          refine ⟨j + 1,by omega,by go_num,Hb.out.alloc hbs _,?_⟩
          rw [Hs.out,if_pos hk,List.append_nil]
          exact Ho.out.alloc _
        case measure=>simp [intOf];omega
      · have hk':(l[j].kd != -1)=true:=by rw [bne_iff_ne];exact hk
        have hown2:=(Ho.out.alloc (.cells #[.int .i64 l[j].p,.int .i64 l[j].kd,.bool l[j].en] 49)).alloc (.cells #[.int .i64 l[j].p] 3)
        have hbs2:w.heap.size≤((wr.alloc (.cells #[.int .i64 l[j].p,.int .i64 l[j].kd,.bool l[j].en] 49)).alloc (.cells #[.int .i64 l[j].p] 3)).heap.size:=by rw [World.size_alloc,World.size_alloc];omega
        have hnews:∀ i u,([.int .i64 l[j].p]:List Value)[i]?=some u→((wr.alloc (.cells #[.int .i64 l[j].p,.int .i64 l[j].kd,.bool l[j].en] 49)).alloc (.cells #[.int .i64 l[j].p] 3)).cell? ((⟨wr.heap.size + 1,0,none⟩:Addr).add i)=some u:=fun i u hu=>by
          match i,hu with
          | 0,hu =>
            cases hu
            refine cell_of_heap (c:=#[.int .i64 l[j].p]) (e:=3) (f:=(0,0)) (j:=0) ?_ rfl
            have:=heap_alloc_new (wr.alloc (.cells #[.int .i64 l[j].p,.int .i64 l[j].kd,.bool l[j].en] 49)) (.cells #[.int .i64 l[j].p] 3)
            rwa [World.size_alloc] at this
        have H2:=Lib.hid hown2
        have H3:=Lib.hid hnews
        clear hown2 hnews
        go_wp2_with (at_builtin;refine wpList_append_own _ rfl _ _ 22 rfl w.heap.size 3 i0 (.int .i64 0) 1 8 Try.underlying22 hi0 hz0 hz1 hz2 rfl (by decide) u3 _ _ rfl H2.out ⟨wr.heap.size + 1,0,none⟩ 1 1 [.int .i64 l[j].p] rfl rfl H3.out (by simp [Value.oneCell']) (by have:=Hl.out;rw [List.length_take] at this;unfold maxLen;omega) (by have:=Hl.out;rw [List.length_take] at this;omega) hbs2 ?_)
        intro v' w1 g1 g2 g3
        have Hb1:=Lib.hid (((Hb.out.alloc hbs (.cells #[.int .i64 l[j].p,.int .i64 l[j].kd,.bool l[j].en] 49)).alloc (by rw [World.size_alloc];omega) (.cells #[.int .i64 l[j].p] 3)).trans ((Turns.grown (S:=fun i=>u3.ownBlock=some i) g2 (fun _ h=>h)).below (fun k hk _=>(Ho.out.lt k hk).1) hbs2))
        have Hg:=Lib.hid g1
        clear g1 g2 g3
        go_wp2
        go_roundw
        case rel =>
          refine ⟨j + 1,by omega,by go_num,Hb1.out,?_⟩
          have:=Hg.out
          rw [Hs.out,if_neg hk,List.length_append,List.map_append]
          exact this
        case measure=>simp [intOf];omega
    · obtain rfl:j=l.length:=by omega
      have Hb:=Lib.hid hb
      have Ho:=Lib.hid hown
      clear hb hown
      go_wp2
      go_ret
      refine ⟨_,rfl,?_,Hb.out⟩
      have:=Ho.out
      rw [List.take_length] at this
      exact this
end Go.Proofs.Ytndppafplgilbaa
