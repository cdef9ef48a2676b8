/-
  larchlaw04.BatonThins returns true for every input. No condition. (Part 25 of 49; joined by program.)
-/
import Derived.Test.YtndppafplgilbaaProg
import Derived.Test.YtndppafplgilbaaL24
import Derived.WalkKit
import Derived.Conc.CompanyMem
import Derived.Conc.SmallLaws
import Derived.Conc.WgArith
import Derived.Laws.LoneSync
set_option linter.unusedVariables false
set_option linter.unusedSimpArgs false
set_option linter.unusedSectionVars false
set_option maxRecDepth 100000
namespace Go.Proofs.Ytndppafplgilbaa
open Go Go.Conc Go.RowKit
open Go.ConcN (sumTo upd sumTo_upd upd_ne upd_same)
noncomputable def seqL:Code→Code
  | .seq x _=>x
  | c=>c
noncomputable def seqR:Code→Code
  | .seq _ x=>x
  | c=>c
noncomputable def opsOf:Code→Array Oper
  | .region _ ops _=>ops
  | _=>#[]
noncomputable def addTop:Code:=seqR (seqR (seqR (Try.f91.body.getD .skip)))
section
variable {gb:Nat} {cs:List Frame} {c:Frame}
set_option maxRecDepth 100000 in
set_option maxHeartbeats 4000000 in
theorem add_out {w:World} {d1:Value} (k wt:Nat) (hk:k < 1000) (hwt:wt≤1) (h0:0 < k∨wt=0)
    (H:∀ v,WayOut Try.prog 0 (G (c.finish (.tuple #[])) cs) v) :
    WayOut Try.prog 1 (G ((bk 91 .normal).at ⟨#[.pointer (some (c0 gb 1)),.int .i64 (-1),undef,undef,.bool false,undef,undef,undef,undef,.int .i64 (-1),.bool true,.pointer (some (c0 gb 1)),.pointer (some (c0 gb 1)),.tuple #[],.tuple #[],.bool false,undef,undef,undef,undef,undef,undef,undef,undef,undef,undef,undef,undef,undef,undef,undef,undef,undef,undef,undef,undef,undef,.pointer (some (c0 gb 1)),.pointer (some (c0 gb 1)),.pointer (some ⟨gb,1,none⟩),.int .i64 (-1),d1,.int .u64 18446744069414584320,.int .u64 ((k:Int) * 4294967296 + (wt:Int)),undef,undef,undef,undef,undef,undef,undef,undef,undef,undef,undef,undef,undef,undef,undef,undef,undef,undef,undef,undef,undef,undef,undef,undef,undef,undef,undef,undef,undef,undef,undef,undef,undef,undef,undef,undef,undef,undef,undef,undef,undef,undef,undef,undef,undef,undef,undef,undef,undef,undef,undef,undef,undef,undef,undef,undef,undef,undef,undef,undef,undef,undef,undef,undef,undef,undef,undef,undef,undef,undef,undef,undef,undef],[dcall 113 #[]]⟩ [.inRegion (opsOf (seqL addTop)) [7],.code (seqR addTop)]) (c :: cs)) w:=by
  have T:=wayOut_ctl (P:=Try.prog)
  simp only [addTop,seqL,seqR,opsOf,Option.getD_some,Try.f91]
  refine laW ?_
  simp only [Go.ConcN.st_flag k wt (by omega) hwt,bne_self_eq_false,ne_eq,not_true_eq_false,decide_false]
  refine laW ?_
  (refine l_cond T false rfl ?_;simp only [if_true,if_false,Bool.false_eq_true,↓reduceIte])
  refine laW ?_
  have e1:IntKind.i32.wrap (((k:Int) * 4294967296 + (wt:Int)) / 4294967296)=(k:Int):=by rw [IntKind.wrap_i32];omega
  have e2:IntKind.u32.wrap (bits .and .u64 ((k:Int) * 4294967296 + (wt:Int)) 2147483647)=(wt:Int):=by rw [Go.ConcN.st_waiters k wt (by omega) hwt,IntKind.wrap_u32];omega
  have e3:decide ((k:Int) < 0)=false:=by simp
  simp only [e1,e2]
  (refine l_cond T false rfl ?_;simp only [if_true,if_false,Bool.false_eq_true,↓reduceIte])
  refine laW ?_
  (refine l_cond T false (by simp [Act.eval] <;> omega) ?_;simp only [if_true,if_false,Bool.false_eq_true,↓reduceIte])
  refine laW ?_
  obtain ⟨bw,e4⟩:∃ b,((wt:Int) != 0)=b:=⟨_,rfl⟩
  have key:∀ b,((wt:Int) != 0)=b→b=true∨b=false:=fun b _=>by cases b <;> simp
  rcases key bw e4 with rfl | rfl
  · have hwt1 : wt = 1 := by have:¬ ((wt:Int)=0):=by simpa using e4
                             omega
    have hk1:0 < k:=by omega
    have e5:decide ((0:Int) < (k:Int))=true:=by simpa using hk1
    simp only [e4]
    refine laW ?_
    (refine l_cond T false rfl ?_;simp only [if_true,if_false,Bool.false_eq_true,↓reduceIte])
    refine laW ?_
    (refine l_cond T true rfl ?_;simp only [if_true,if_false,Bool.false_eq_true,↓reduceIte])
    refine l_ret T ?_
    refine wayOut_unwind .enable rfl (fun g h=>by cases h) rfl Try.func113 (by kernel_rfl) (by kernel_rfl) (by kernel_rfl) (by kernel_rfl) ?_
    show WayOut _ 0 _ _
    refine l_leave T Try.func91 rfl (resultsC_none rfl _) (H _)
  · have hwt0:wt=0:=by simpa using e4
    by_cases hk1:0 < k
    · have e5:decide ((0:Int) < (k:Int))=true:=by simpa using hk1
      simp only [e4]
      refine laW ?_
      (refine l_cond T false rfl ?_;simp only [if_true,if_false,Bool.false_eq_true,↓reduceIte])
      refine laW ?_
      (refine l_cond T true rfl ?_;simp only [if_true,if_false,Bool.false_eq_true,↓reduceIte])
      refine l_ret T ?_
      refine wayOut_unwind .enable rfl (fun g h=>by cases h) rfl Try.func113 (by kernel_rfl) (by kernel_rfl) (by kernel_rfl) (by kernel_rfl) ?_
      show WayOut _ 0 _ _
      refine l_leave T Try.func91 rfl (resultsC_none rfl _) (H _)
    · have hk2:k=0:=by omega
      subst hk2
      subst hwt0
      simp only [e4,Int.ofNat_zero,Int.natCast_zero,Int.zero_mul,Int.add_zero]
      refine laW ?_
      (refine l_cond T false rfl ?_;simp only [if_true,if_false,Bool.false_eq_true,↓reduceIte])
      refine laW ?_
      (refine l_cond T true rfl ?_;simp only [if_true,if_false,Bool.false_eq_true,↓reduceIte])
      refine l_ret T ?_
      refine wayOut_unwind .enable rfl (fun g h=>by cases h) rfl Try.func113 (by kernel_rfl) (by kernel_rfl) (by kernel_rfl) (by kernel_rfl) ?_
      show WayOut _ 0 _ _
      refine l_leave T Try.func91 rfl (resultsC_none rfl _) (H _)
end
end Go.Proofs.Ytndppafplgilbaa
namespace Go.Proofs.Ytndppafplgilbaa
open Go Go.Conc Go.RowKit
open Go.ConcN (sumTo upd sumTo_upd upd_ne upd_same)
section
variable {gb:Nat} {cs:List Frame} {c:Frame}
set_option maxRecDepth 100000 in
set_option maxHeartbeats 4000000 in
theorem add_last {w:World} {d1:Value} (H:∀ v,WayOut Try.prog 0 (G (c.finish (.tuple #[])) cs) v) :
    WayLast Try.prog (c0 gb 1) (0,1) (G ((bk 91 .normal).at ⟨#[.pointer (some (c0 gb 1)),.int .i64 (-1),undef,undef,.bool false,undef,undef,undef,undef,.int .i64 (-1),.bool true,.pointer (some (c0 gb 1)),.pointer (some (c0 gb 1)),.tuple #[],.tuple #[],.bool false,undef,undef,undef,undef,undef,undef,undef,undef,undef,undef,undef,undef,undef,undef,undef,undef,undef,undef,undef,undef,undef,.pointer (some (c0 gb 1)),.pointer (some (c0 gb 1)),.pointer (some ⟨gb,1,none⟩),.int .i64 (-1),d1,.int .u64 18446744069414584320,.int .u64 1,undef,undef,undef,undef,undef,undef,undef,undef,undef,undef,undef,undef,undef,undef,undef,undef,undef,undef,undef,undef,undef,undef,undef,undef,undef,undef,undef,undef,undef,undef,undef,undef,undef,undef,undef,undef,undef,undef,undef,undef,undef,undef,undef,undef,undef,undef,undef,undef,undef,undef,undef,undef,undef,undef,undef,undef,undef,undef,undef,undef,undef,undef,undef,undef,undef,undef,undef,undef,undef,undef,undef,undef,undef],[dcall 113 #[]]⟩ [.inRegion (opsOf (seqL addTop)) [7],.code (seqR addTop)]) (c :: cs)) w:=by
  have T:=wayLast_ctl (P:=Try.prog) (st:=c0 gb 1)
  simp only [addTop,seqL,seqR,opsOf,Option.getD_some,Try.f91]
  refine laW ?_
  have eb:bits .and .u64 1 2147483648=0:=by decide
  simp only [eb,bne_self_eq_false]
  refine laW ?_
  (refine l_cond T false rfl ?_;simp only [if_true,if_false,Bool.false_eq_true,↓reduceIte])
  refine laW ?_
  have e1:IntKind.i32.wrap (1 / 4294967296)=0:=by decide
  have e2:IntKind.u32.wrap (bits .and .u64 1 2147483647)=1:=by decide
  try simp only [e1,e2]
  (refine l_cond T false rfl ?_;simp only [if_true,if_false,Bool.false_eq_true,↓reduceIte])
  refine laW ?_
  (refine l_cond T false rfl ?_;simp only [if_true,if_false,Bool.false_eq_true,↓reduceIte])
  refine laW ?_
  (refine l_cond T false rfl ?_;simp only [if_true,if_false,Bool.false_eq_true,↓reduceIte])
  refine laW ?_
  (refine l_cond T false rfl ?_;simp only [if_true,if_false,Bool.false_eq_true,↓reduceIte])
  refine laW ?_
  (refine l_into T (by simp) rfl (by rfl) rfl Try.func120 (by rfl) rfl ?_;walk_nrmf Try.f120)
  refine laW ?_
  refine WayLast.load rfl (by decide) (fun w hw=>stepG_load_atomic rfl rfl (by simp [bk]) rfl Try.func138 (by kernel_rfl) (by kernel_rfl) (by kernel_rfl) .u64 (by kernel_rfl) rfl hw) ?_
  walk_nrm
  refine laW ?_
  refine l_ret T ?_
  (refine l_leave T Try.func120 rfl (resultsC_tmp rfl _) ?_;rw [bk_finish rfl];walk_nrm)
  refine laW ?_
  (refine l_cond T false rfl ?_;simp only [if_true,if_false,Bool.false_eq_true,↓reduceIte])
  refine laW ?_
  (refine l_into T (by simp) rfl (by rfl) rfl Try.func121 (by rfl) rfl ?_;walk_nrmf Try.f121)
  refine laW ?_
  refine WayLast.store rfl (by decide) (fun w x hw hz=>stepG_store_atomic rfl rfl (by simp [bk]) rfl Try.func139 (by kernel_rfl) (by kernel_rfl) (by kernel_rfl) (by kernel_rfl) rfl rfl hw hz) ?_
  walk_nrm
  refine laW ?_
  refine l_fin T ?_
  (refine l_leave T Try.func121 rfl (resultsC_none rfl _) ?_;rw [bk_finish rfl];walk_nrm)
  refine laW ?_
  (refine l_cond T false rfl ?_;simp only [if_true,if_false,Bool.false_eq_true,↓reduceIte])
  refine laW ?_
  refine l_block T ?_
  refine l_loop T ?_
  refine laW ?_
  (refine l_cond T true rfl ?_;simp only [if_true,if_false,Bool.false_eq_true,↓reduceIte])
  refine laW ?_
  refine l_block T ?_
  refine laW ?_
  refine WayLast.sem rfl (by decide) (wakes_entry rfl rfl Try.func123 (by kernel_rfl)) (fun w hw hz=>(stepG_semrelease rfl rfl (by simp [bk]) rfl Try.func123 (by kernel_rfl) (by kernel_rfl) (by kernel_rfl) (by kernel_rfl) (by simp [Act.eval]) hw hz).trans (by rfl)) ?_
  clear T
  have T:=wayOut_ctl (P:=Try.prog)
  walk_nrm
  refine laW ?_
  refine l_inBlock T ?_
  refine laW ?_
  refine l_inLoop T ?_
  refine laW ?_
  (refine l_cond T false rfl ?_;simp only [if_true,if_false,Bool.false_eq_true,↓reduceIte])
  refine l_exit T rfl ?_
  refine l_fin T ?_
  refine wayOut_unwind .enable rfl (fun g h=>by cases h) rfl Try.func113 (by kernel_rfl) (by kernel_rfl) (by kernel_rfl) (by kernel_rfl) ?_
  show WayOut _ 0 _ _
  refine l_leave T Try.func91 rfl (resultsC_none rfl _) (H _)
end
end Go.Proofs.Ytndppafplgilbaa
namespace Go.Proofs.Ytndppafplgilbaa
open Go Go.Conc Go.RowKit
open Go.ConcN (sumTo upd sumTo_upd upd_ne upd_same)
section
variable {gb:Nat} {cs:List Frame} {c:Frame}
set_option maxRecDepth 100000 in
set_option maxHeartbeats 4000000 in
theorem add_done {w:World} (H:∀ v,WayOut Try.prog 0 (G (c.finish (.tuple #[])) cs) v) :
    WayDone Try.prog (c0 gb 1) 0 (G (Frame.enter Try.prog 91 #[.pointer (some (c0 gb 1)),.int .i64 (-1)] .normal) (c :: cs)) w:=by
  have T:=wayDone_ctl (P:=Try.prog) (st:=c0 gb 1)
  rw [enter_bk Try.func91 rfl]
  walk_nrmf Try.f91
  refine laW ?_
  (refine l_cond T true rfl ?_;simp only [if_true,if_false,Bool.false_eq_true,↓reduceIte])
  refine laW ?_
  (refine l_cond T true rfl ?_;simp only [if_true,if_false,Bool.false_eq_true,↓reduceIte])
  refine laW ?_
  refine WayDone.conv (v:=.pointer (some (c0 gb 1))) (by simp) rfl (by rfl) (fun w x hx=>?_) (fun w x hx=>?_) ?_
  · have hcv:=run_convert_to_unsafe (P:=Try.prog) Try.underlying177 Try.underlying193 (by kernel_rfl) hx
    go_simp
  · have hcv:=events_convert_to_unsafe (P:=Try.prog) Try.underlying177 Try.underlying193 (by kernel_rfl) hx #[]
    simp [go_sem,hcv]
  walk_nrm
  refine WayDone.mark rfl ?_ (fun w _ _=>stepG_markAt .releaseMerge (by simp) rfl rfl (by simp [bk]) rfl Try.func111 (by kernel_rfl) (by kernel_rfl) (by kernel_rfl) (by kernel_rfl) (ad:=c0 gb 1) (by simp [Act.eval])) ?_
  · intro e he;simp at he;subst he;rfl
  walk_nrm
  show WayDone _ _ 0 _ _
  refine laW ?_
  refine WayDone.mark rfl ?_ (fun w _ _=>stepG_mark0 .disable (by simp) rfl rfl (by simp [bk]) rfl Try.func112 (by kernel_rfl) (by kernel_rfl) (by kernel_rfl) (by kernel_rfl)) ?_
  · intro e he;simp at he;subst he;rfl
  walk_nrm
  show WayDone _ _ 1 _ _
  refine laW ?_
  refine l_any T rfl (fun w=>stepG_defer rfl rfl (by simp [bk]) rfl) ?_
  walk_nrm
  refine laW ?_
  refine l_any T rfl (fun w=>stepG_entry_pure (.bool false) rfl rfl (by simp [bk]) rfl Try.func114 (by kernel_rfl) (by kernel_rfl) (by kernel_rfl) (by kernel_rfl)) ?_
  walk_nrm
  refine laW ?_
  (refine l_cond T false rfl ?_;simp only [if_true,if_false,Bool.false_eq_true,↓reduceIte])
  refine laW ?_
  (refine l_into T (by simp) rfl (by rfl) rfl Try.func118 (by rfl) rfl ?_;walk_nrmf Try.f118)
  refine laW ?_
  have ew:IntKind.u64.wrap (IntKind.u64.wrap (-1) * 4294967296)=18446744069414584320:=by decide
  rw [ew]
  refine WayDone.add (es:=#[⟨.cell (c0 gb 1),false,true⟩,⟨.cell (c0 gb 1),true,true⟩]) rfl (by decide) ?g1 ?g2 ?hes ?h1 ?H1 ?h2 ?H2 ?HL
  case hes=>intro e he;simp at he;rcases he with rfl | rfl <;> exact ⟨_,rfl⟩
  case h1 =>
    intro w k hc hz hk
    have e:IntKind.u64.wrap (((k + 1:Nat):Int) * 4294967296 + 18446744069414584320)=(k:Int) * 4294967296:=by rw [IntKind.wrap_u64];omega
    refine (stepG_add_atomic rfl rfl (by simp [bk]) rfl Try.func137 (by kernel_rfl) (by kernel_rfl) (by kernel_rfl) .u64 (by kernel_rfl) rfl rfl hc hz).trans ?_
    rw [e]
  case h2 =>
    intro w k hc hz hk
    have e:IntKind.u64.wrap (((k + 1:Nat):Int) * 4294967296 + 1 + 18446744069414584320)=(k:Int) * 4294967296 + 1:=by rw [IntKind.wrap_u64];omega
    refine (stepG_add_atomic rfl rfl (by simp [bk]) rfl Try.func137 (by kernel_rfl) (by kernel_rfl) (by kernel_rfl) .u64 (by kernel_rfl) rfl rfl hc hz).trans ?_
    rw [e]
  all_goals clear T
  case H1 =>
    intro k hk
    have T:=wayOut_ctl (P:=Try.prog)
    walk_nrm
    refine laW ?_
    refine l_ret T ?_
    (refine l_leave T Try.func118 rfl (resultsC_tmp rfl _) ?_;rw [bk_finish rfl];walk_nrm)
    have:=add_out (w:=w) (gb:=gb) (cs:=cs) (c:=c) (d1:=.int .u64 (IntKind.u64.wrap (-1))) k 0 hk (by decide) (.inr rfl) H
    simp only [Int.natCast_zero,Int.add_zero,addTop,seqL,seqR,opsOf,Option.getD_some,Try.f91] at this
    exact this
  case H2 =>
    intro k hk h0
    have T:=wayOut_ctl (P:=Try.prog)
    walk_nrm
    refine laW ?_
    refine l_ret T ?_
    (refine l_leave T Try.func118 rfl (resultsC_tmp rfl _) ?_;rw [bk_finish rfl];walk_nrm)
    have:=add_out (w:=w) (gb:=gb) (cs:=cs) (c:=c) (d1:=.int .u64 (IntKind.u64.wrap (-1))) k 1 hk (by decide) (.inl h0) H
    simp only [Int.natCast_one,addTop,seqL,seqR,opsOf,Option.getD_some,Try.f91] at this
    exact this
  case HL =>
    have T:=wayLast_ctl (P:=Try.prog) (st:=c0 gb 1)
    walk_nrm
    refine laW ?_
    refine l_ret T ?_
    (refine l_leave T Try.func118 rfl (resultsC_tmp rfl _) ?_;rw [bk_finish rfl];walk_nrm)
    have:=add_last (w:=w) (gb:=gb) (cs:=cs) (c:=c) (d1:=.int .u64 (IntKind.u64.wrap (-1))) H
    simp only [addTop,seqL,seqR,opsOf,Option.getD_some,Try.f91] at this
    exact this
end
end Go.Proofs.Ytndppafplgilbaa
