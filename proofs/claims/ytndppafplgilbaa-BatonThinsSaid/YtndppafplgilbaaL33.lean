/-
  larchlaw04.BatonThins returns true for every input. No condition. (Part 33 of 49; joined by program.)
-/
import Derived.Test.YtndppafplgilbaaL26
set_option linter.unusedVariables false
set_option linter.unusedSimpArgs false
set_option linter.unusedSectionVars false
set_option maxRecDepth 100000
namespace Go.Proofs.Ytndppafplgilbaa
open Go Go.Conc Go.RowKit
open Go.ConcN (sumTo upd sumTo_upd upd_ne upd_same)
section
variable {P:Program} {Post:Value→World→Prop} {s:Sit} {g g':Goroutine} {w:World} {es:Array Event}
theorem LM.said (hr:g.status=.running) (hm:∀ e∈es,∀ b,(MemAct.ofEvent e).touch?=some b→b.write=false∧b.kind=.said∧∀ x,b.loc=.cell x→x.block < w.heap.size) (hd:∀ d,deafBehind d es=d) {a:Addr} (ha:a.block≠s.st.block∨a.off≠s.st.off) (hc:∃ x,w.cell? a=some x) (h:∀ w x,w.cell? a=some x→stepG P (0 == 0) g w=.go g' w es) (H:LM P Post s g' w):LM P Post s g w:=fun ok=>by
  obtain ⟨x,hx⟩:=hc
  refine Lh.step ok hr fun w₁ r=>?_
  have hx1:=(rw_off r (a:=a) (ha.imp (fun h e=>h e.symm) (fun h e=>h e.symm))).1.trans hx
  refine ⟨g',w₁,es,h w₁ x hx1,⟨id,fun _ _ _ _=>rfl,fun _=>⟨rfl,rfl⟩,fun e he b hb=>⟨fun _ _ _ _=>(hm e he b hb).1,fun _ e1=>by rw [(hm e he b hb).2.1] at e1;cases e1⟩,Nat.le_refl _,fun e he b y hb hy=>by rw [r.size];exact (hm e he b hb).2.2 y hy,rfl,rfl⟩,?_⟩
  rw [hd];exact (H ok).rw r
theorem LM.convS {f:FuncId} {kd:CallKind} {a:Act} {k:List Item} {cs:List Frame} (hkd:kd≠.early) {ops:Array Oper} {i:Nat} {rest:List Nat} {o:Oper} {v:Value} (ho:ops[i]?=some o) (hw:Region.wanted o (yielded ops a.tmps)=true) {p:Addr} (hp:p.block≠s.st.block∨p.off≠s.st.off) (hc:∃ x,w.cell? p=some x)
    (hr:∀ w x,w.cell? p=some x→(execOp a.eval o).run P w=.ok (.value v) w) (he:∀ w x,w.cell? p=some x→(execOp a.eval o).events P w #[]=#[]) (H:LM P Post s (G ((bk f kd).at (a.put o.dst v) (.inRegion ops rest :: k)) cs) w):LM P Post s (G ((bk f kd).at a (.inRegion ops (i :: rest) :: k)) cs) w :=
  LM.said (es:=#[]) rfl (fun e he=>by simp at he) (fun d=>rfl) hp hc (fun w x hx=>by
    have:=stepG_value (P:=P) (main:=(0 == 0)) (b:=bk f kd) (a:=a) (k:=k) (cs:=cs) (w:=w) (rest:=rest) ho hw hkd (hr w x hx)
    unfold listed at this
    rw [he w x hx,seen_none] at this
    exact this) H
theorem LM.unwind {f f':FuncId} {kd:CallKind} {a:Act} {cs:List Frame} {fn:Func} {todo:List Item} {ds:List Deferred} (m:Mark) (hm:(MemAct.ofEvent ⟨.mark m,false,true⟩).touch?=none) (hx:∀ g,m≠.extern g) (hc:∃ x,w.cell? s.st=some x) (hd:a.defers=dcall f' #[] :: ds)
    (hf:P.funcs[f']?=some fn) (hname:(fn.name == "runtime.NumGoroutine")=false) (hb:fn.body.isNone=true) (hn:Extern.findNext fn=none)
    (he:Extern.find fn=some (fun _=>do Go.mark m;pure Extern.Race.none_))
    (H:LM P Post { s with d:=deafBehind s.d #[⟨.mark m,false,true⟩] } (G { (bk f kd).at ⟨a.tmps,ds⟩ todo with mode:=.returning } cs) w):LM P Post s (G { (bk f kd).at a todo with mode:=.returning } cs) w :=
  LM.mark rfl (fun e h=>by simp only [List.mem_toArray,List.mem_singleton] at h;subst h;exact hm) hc (fun w _ _=>stepG_unwind_entry (v:=.tuple #[]) hd hf hname hb hn he (by simp [Extern.Race.none_]) (by simp) (by
    intro x hx'
    simp at hx'
    subst hx'
    exact ⟨rfl,fun g h=>hx g (Loc.mark.inj h)⟩)) H
theorem LM.add (hspot:s.st.spot=none) (hnew:s.A0 s.n=false) (hbd:alive s.A0 (s.n + 1) < 900) (hSS:∀ g l,g≠0→(s.R0 g).sits→s.S g l→l≠.cell s.st) (hr:g.status=.running) (g1:Nat→Goroutine) (es:Array Event) (hes:∀ e∈es,∃ b,e=⟨.cell s.st,b,true⟩)
    (h:∀ w₁ k,w₁.cell? s.st=some (.int .u64 (k * 4294967296:Nat))→w₁.frozen? s.st=false→k < 1000→stepG P (0 == 0) g w₁=.go (g1 k) (w₁.setCell s.st (.int .u64 ((k + 1) * 4294967296:Nat))) es)
    (H:∀ w₁ k,RW s.st w w₁→w₁.cell? s.st=some (.int .u64 (k * 4294967296:Nat))→k < 1000→LM P Post { s with A0:=upd s.A0 s.n true } (g1 k) (w₁.setCell s.st (.int .u64 ((k + 1) * 4294967296:Nat)))):LM P Post s g w:=fun ok =>
  Lh.add ok hr hspot hnew hbd fun w₁ k r hc hz hk=>⟨g1 k,es,h w₁ k hc hz hk,hes,hSS,H w₁ k r hc hk ⟨ok.Kat,ok.Kst,ok.Kc,ok.stc⟩⟩
end
section
variable {Post:Value→World→Prop} {gb:Nat} {s:Sit} {w:World}
set_option maxRecDepth 100000 in
set_option maxHeartbeats 8000000 in
theorem add_one {K:World→Prop} {S:Nat→Loc→Prop} {Shun:Loc→Prop} {R0:Nat→Role} {A0:Nat→Bool} {sn:Nat} (hnew:A0 sn=false) (hbd:alive A0 (sn + 1) < 900) (hSS:∀ g l,g≠0→(R0 g).sits→S g l→l≠.cell (c0 gb 1)) {N:Nat} (hN:w.cell? (c0 gb 1)=some (.int .u64 (N * 4294967296:Nat))) (hsm:∃ x,w.cell? ⟨gb,2,none⟩=some x) :
    CallsL Try.prog (LM Try.prog Post) (fun _=>True) 91 #[.pointer (some (c0 gb 1)),.int .i64 1] ⟨K,S,Shun,c0 gb 1,R0,A0,sn,0⟩ w (fun r s' w'=>r=.inl (.tuple #[])∧s'=⟨K,S,Shun,c0 gb 1,R0,upd A0 sn true,sn,0⟩∧∃ w₁ k,RW (c0 gb 1) w w₁∧w₁.cell? (c0 gb 1)=some (.int .u64 (k * 4294967296:Nat))∧w'=w₁.setCell (c0 gb 1) (.int .u64 ((k + 1) * 4294967296:Nat))):=by
  intro c cs _ hkd hcm h1 _
  have O:=ownM Try.prog Post
  have T:=O.toCtl
  rw [enter_bk Try.func91 rfl]
  walk_nrmf Try.f91
  refine laW ?_
  (refine l_cond T true rfl ?_;simp only [if_true,if_false,Bool.false_eq_true,↓reduceIte])
  refine laW ?_
  (refine l_cond T false rfl ?_;simp only [if_true,if_false,Bool.false_eq_true,↓reduceIte])
  refine laW ?_
  refine LM.mark rfl ?_ ⟨_,hN⟩ (fun w _ _=>stepG_mark0 .disable (by simp) rfl rfl (by simp [bk]) rfl Try.func112 (by kernel_rfl) (by kernel_rfl) (by kernel_rfl) (by kernel_rfl)) ?_
  · intro e he;simp at he;subst he;rfl
  walk_nrm
  show LM _ _ ⟨K,S,Shun,c0 gb 1,R0,A0,sn,1⟩ _ _
  refine laW ?_
  refine l_any T rfl (fun w=>stepG_defer rfl rfl (by simp [bk]) rfl) ?_
  walk_nrm
  refine laW ?_
  refine l_any T rfl (fun w=>stepG_entry_pure (.bool false) rfl rfl (by simp [bk]) rfl Try.func114 (by kernel_rfl) (by kernel_rfl) (by kernel_rfl) (by kernel_rfl)) ?_
  walk_nrm
  refine laW ?_
  (refine l_cond T false rfl ?_;simp only [if_true,if_false,Bool.false_eq_true,↓reduceIte])
  refine laW ?_
  (refine l_into T (by simp) rfl (by rfl) rfl Try.func118 (by rfl) rfl ?_;walk_nrmf Try.f118)
  refine laW ?_
  have ew:IntKind.u64.wrap (IntKind.u64.wrap 1 * 4294967296)=4294967296:=by decide
  try rw [ew]
  refine LM.add rfl hnew hbd hSS rfl ?g1 #[⟨.cell (c0 gb 1),false,true⟩,⟨.cell (c0 gb 1),true,true⟩] ?hes ?h ?H
  case hes=>intro e he;simp at he;rcases he with rfl | rfl <;> exact ⟨_,rfl⟩
  case h =>
    intro w k hc hz hk
    have e:IntKind.u64.wrap (((k * 4294967296:Nat):Int) + 4294967296)=(((k + 1) * 4294967296:Nat):Int):=by rw [IntKind.wrap_u64];omega
    refine (stepG_add_atomic rfl rfl (by simp [bk]) rfl Try.func137 (by kernel_rfl) (by kernel_rfl) (by kernel_rfl) .u64 (by kernel_rfl) rfl rfl hc hz).trans ?_
    rw [e]
  case H =>
    intro w₁ k r hc hk
    have HC:(w₁.setCell (c0 gb 1) (.int .u64 ((k + 1) * 4294967296:Nat))).cell? (c0 gb 1)=some (.int .u64 ((k + 1) * 4294967296:Nat)):=cell_set hc
    have HS:∃ x,(w₁.setCell (c0 gb 1) (.int .u64 ((k + 1) * 4294967296:Nat))).cell? ⟨gb,2,none⟩=some x:=by
      obtain ⟨x,hx⟩:=hsm
      exact ⟨x,(cell_set_ne (.inr (by simp))).trans ((rw_off r (a:=⟨gb,2,none⟩) (.inr (by simp))).1.trans hx)⟩
    have fin:=h1 _ _ _ ⟨rfl,rfl,w₁,k,r,hc,rfl⟩
    generalize hw2:w₁.setCell (c0 gb 1) (.int .u64 ((k + 1) * 4294967296:Nat))=w2 at HC HS fin ⊢
    have ek:(((k + 1) * 4294967296:Nat):Int)=((k + 1:Nat):Int) * 4294967296:=by omega
    have e1:IntKind.i32.wrap ((k + 1:Nat):Int)=((k + 1:Nat):Int):=by rw [IntKind.wrap_i32];omega
    have e2:IntKind.u32.wrap (bits .and .u64 (((k + 1:Nat):Int) * 4294967296) 2147483647)=0:=by
      have:=Go.ConcN.st_waiters (k + 1) 0 (by omega) (by omega)
      simp only [Int.natCast_zero,Int.add_zero] at this
      rw [this];decide
    have e3:bits .and .u64 (((k + 1:Nat):Int) * 4294967296) 2147483648=0:=by
      have:=Go.ConcN.st_flag (k + 1) 0 (by omega) (by omega)
      simp only [Int.natCast_zero,Int.add_zero] at this
      exact this
    have e4:IntKind.i32.wrap (((k + 1:Nat):Int) * 4294967296 / 4294967296)=((k + 1:Nat):Int):=by rw [IntKind.wrap_i32];omega
    rw [ek]
    generalize hm:k + 1=m at e1 e2 e3 e4 ⊢
    have hm0:0 < m:=by omega
    walk_nrm
    refine laW ?_
    refine l_ret T ?_
    (refine l_leave T Try.func118 rfl (resultsC_tmp rfl _) ?_;rw [bk_finish rfl];walk_nrm)
    refine laW ?_
    try simp only [e3]
    refine laW ?_
    (refine l_cond T false (by simp [Act.eval] <;> omega) ?_;simp only [if_true,if_false,Bool.false_eq_true,↓reduceIte])
    refine laW ?_
    try simp only [e1,e2,e4]
    refine laW ?_
    have e5:IntKind.i32.wrap 1=1:=by decide
    try simp only [e5]
    refine laW ?_
    by_cases hm1:m=1
    · have eb:((m:Int) == 1)=true:=by simp;omega
      try simp only [eb]
      (refine l_cond T true (by simp [Act.eval] <;> omega) ?_;simp only [if_true,if_false,Bool.false_eq_true,↓reduceIte])
      refine laW ?_
      refine LM.convS (v:=.pointer (some ⟨gb,2,none⟩)) (by simp) rfl (by rfl) (p:=⟨gb,2,none⟩) (.inr (by simp)) HS (fun w x hx=>?_) (fun w x hx=>?_) ?_
      · have hcv:=run_convert_to_unsafe (P:=Try.prog) Try.underlying199 Try.underlying193 (by kernel_rfl) hx
        go_simp
      · have hcv:=events_convert_to_unsafe (P:=Try.prog) Try.underlying199 Try.underlying193 (by kernel_rfl) hx #[]
        simp [go_sem,hcv]
      walk_nrm
      refine LM.said (es:=#[⟨.mark (.read ⟨gb,2,none⟩),false,true⟩]) rfl (fun e he b hb=>?_) (fun d=>deafBehind_still (fun e he=>by simp only [List.mem_toArray,List.mem_singleton] at he;subst he;simp) d) (a:=⟨gb,2,none⟩) (.inr (by simp)) HS (fun w _ _=>stepG_markAt .read (by simp) rfl rfl (by simp [bk]) rfl Try.func119 (by kernel_rfl) (by kernel_rfl) (by kernel_rfl) (by kernel_rfl) (ad:=⟨gb,2,none⟩) (by simp [Act.eval])) ?_
      · simp only [List.mem_toArray,List.mem_singleton] at he
        subst he
        simp only [MemAct.ofEvent,MemAct.touch?,Option.some.injEq] at hb
        subst hb
        refine ⟨rfl,rfl,fun x hx=>?_⟩
        cases hx
        obtain ⟨y,hy⟩:=HS
        obtain ⟨_,_,_,h3,_⟩:=cell_some hy
        exact (Array.getElem?_eq_some_iff.1 h3).1
      walk_nrm
      refine laW ?_
      (refine l_cond T false (by simp [Act.eval] <;> omega) ?_;simp only [if_true,if_false,Bool.false_eq_true,↓reduceIte])
      refine laW ?_
      (refine l_cond T false (by simp [Act.eval] <;> omega) ?_;simp only [if_true,if_false,Bool.false_eq_true,↓reduceIte])
      refine laW ?_
      have e6:decide ((m:Int) > 0)=true:=by simp;omega
      have e7:decide ((0:Int) < (m:Int))=true:=by simp;omega
      try simp only [e6,e7]
      refine laW ?_
      (refine l_cond T true (by simp [Act.eval] <;> omega) ?_;simp only [if_true,if_false,Bool.false_eq_true,↓reduceIte])
      refine l_ret T ?_
      refine LM.unwind .enable rfl (fun g h=>by cases h) ⟨_,HC⟩ rfl Try.func113 (by kernel_rfl) (by kernel_rfl) (by kernel_rfl) (by kernel_rfl) ?_
      exact l_leave T Try.func91 rfl (resultsC_none rfl _) fin
    · have eb:((m:Int) == 1)=false:=by simp;omega
      try simp only [eb]
      (refine l_cond T false (by simp [Act.eval] <;> omega) ?_;simp only [if_true,if_false,Bool.false_eq_true,↓reduceIte])
      refine laW ?_
      (refine l_cond T false (by simp [Act.eval] <;> omega) ?_;simp only [if_true,if_false,Bool.false_eq_true,↓reduceIte])
      refine laW ?_
      (refine l_cond T false (by simp [Act.eval] <;> omega) ?_;simp only [if_true,if_false,Bool.false_eq_true,↓reduceIte])
      refine laW ?_
      have e6:decide ((m:Int) > 0)=true:=by simp;omega
      have e7:decide ((0:Int) < (m:Int))=true:=by simp;omega
      try simp only [e6,e7]
      refine laW ?_
      (refine l_cond T true (by simp [Act.eval] <;> omega) ?_;simp only [if_true,if_false,Bool.false_eq_true,↓reduceIte])
      refine l_ret T ?_
      refine LM.unwind .enable rfl (fun g h=>by cases h) ⟨_,HC⟩ rfl Try.func113 (by kernel_rfl) (by kernel_rfl) (by kernel_rfl) (by kernel_rfl) ?_
      exact l_leave T Try.func91 rfl (resultsC_none rfl _) fin
end
end Go.Proofs.Ytndppafplgilbaa
