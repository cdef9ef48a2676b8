/-
  larchlaw04.BatonThins returns true for every input. No condition. (Part 49 of 49; joined by program.)
-/
import Derived.Test.YtndppafplgilbaaL22
import Derived.Test.YtndppafplgilbaaL47
import Derived.Test.YtndppafplgilbaaL28
import Derived.Conc.LeavingOf
import Derived.Test.YtndppafplgilbaaL48
set_option linter.unusedVariables false
set_option linter.unusedSimpArgs false
set_option linter.unusedSectionVars false
set_option maxRecDepth 100000
namespace Go.Proofs.Ytndppafplgilbaa
open Go.ChangeShapes Go.WideShapes Go.ChangeAt Go.RowKit Go.Deep
section
variable {H:Type} {enc:TypeId × Value→H} {P:Program}
theorem post_tape {f:Func} {s:ChangeSpec} {W W':World} {args:Array Value} {v:Value} {t:Tape} (h:s.post enc P f false true false false W args v { W' with tape:=t }):s.post enc P f false true false false W args v W':=by
  obtain ⟨ds,gs,before,pr,pa,pv,h1,h2,h3,h4,h5,h6⟩:=h
  exact ⟨ds,gs,before,pr,pa,pv,h1,h2.of_heap (by rfl),h3.of_heap (by rfl),h4.of_heap (by rfl),h5,fun ha=>by cases ha⟩
theorem law_postL {f:Func} {s:ChangeSpec} {W W':World} {args:Array Value} {ds gs:List (DataW H)} {before:List MemPlace} {tb:TypeId} {v:Value}
    (hW:DataW.Whole enc P f.params.toList s.vars false W args.toList ds gs before) (hv:s.vars=[]) (hs:s.fn H (ds ++ gs)={ results:=[.lit (.bool true)],args:=ds }) (hrt:f.resultTypes=#[tb]) (htb:P.underlying tb=some .bool)
    (hl:laidOutB P=true) (hts:∀ t∈f.params.toList,P.readableRec t=true∧t < P.types.size) (hp:LawPost W v W'):s.post enc P f false true false false W args v W':=by
  obtain ⟨rfl,hb⟩:=hp
  exact post_tape (law_post hW hv hs hrt htb hl hts hb)
theorem chooseN {α:Type} {n:Nat} {p:Nat→α→Prop} (h:∀ i,i < n→∃ x,p i x):∃ l:List α,l.length=n∧∀ i (hi:i < l.length),p i l[i]:=by
  induction n with
  | zero=>exact ⟨[],rfl,fun i hi=>absurd hi (by simp)⟩
  | succ n ih =>
    obtain ⟨l,hl,hp⟩:=ih (fun i hi=>h i (by omega))
    obtain ⟨x,hx⟩:=h n (by omega)
    refine ⟨l ++ [x],by simp [hl],fun i hi=>?_⟩
    by_cases e:i < l.length
    · rw [List.getElem_append_left e];exact hp i e
    · have:i=n:=by simp at hi;omega
      subst this
      rw [List.getElem_append_right (by omega)]
      simpa [hl] using hx
end
end Go.Proofs.Ytndppafplgilbaa
namespace Go.Proofs.Ytndppafplgilbaa
open Go.ChangeShapes Go.WideShapes Go.ChangeAt Go.RowKit Go.Deep
section
variable {H:Type} {enc:TypeId × Value→H} {P:Program}
theorem open_actsT {t e ti:TypeId} {f0 f1 f2 f3:Field} {cs:List Value} {x:DataW H × List MemPlace} {w:World} {fuel:Nat} (ht:P.underlying t=some (.slice e)) (he:P.underlying e=some (.struct #[f0,f1,f2,f3])) (hi:P.underlying ti=some (.int .i64))
    (hone:oneCellFields P #[f0,f1,f2,f3]=true) (hC:P.cellsOf e=4) (t0:f0.type=ti) (t1:f1.type=ti) (t2:f2.type=ti) (t3:f3.type=ti)
    (hf:DataW.trod enc P w 0 (fun _=>true) true fuel t cs=some x) :
    ∃ (a:Option Addr) (cap:Nat) (l:List A4),cs=[.slice a l.length cap]∧l.length≤cap∧ActsIn w a l∧(∀ x∈l,(Lit.int .i64 x.k).wf=true∧(Lit.int .i64 x.at_).wf=true∧(Lit.int .i64 x.a).wf=true∧(Lit.int .i64 x.b).wf=true) ∧
      (x.1=.nil∧l=[]∨∃ D spare,x.1=.slice D spare∧D.length=l.length):=by
  rcases open_slice ht hf with ⟨hcs,hx⟩ | ⟨a,len,cap,m,n,D,Pl,hcs,_,hl,hm,hmm,hx,hel⟩
  · subst hcs hx
    exact ⟨none,0,[],rfl,Nat.le_refl _,fun j hj=>absurd hj (by simp),by simp,.inl ⟨rfl,rfl⟩⟩
  · subst hcs hx
    simp only [if_true] at hmm
    have each:∀ i,i < len→∃ x:A4,(∃ b off,a=⟨b,off,none⟩∧w.cell? ⟨b,off + i * 4,none⟩=some (.int .i64 x.k)∧w.cell? ⟨b,off + i * 4 + 1,none⟩=some (.int .i64 x.at_)∧w.cell? ⟨b,off + i * 4 + 2,none⟩=some (.int .i64 x.a)∧w.cell? ⟨b,off + i * 4 + 3,none⟩=some (.int .i64 x.b)) ∧
        (Lit.int .i64 x.k).wf=true∧(Lit.int .i64 x.at_).wf=true∧(Lit.int .i64 x.a).wf=true∧(Lit.int .i64 x.b).wf=true:=by
      intro i hi'
      obtain ⟨cs',hc,ht'⟩:=hel i (by omega)
      rw [hC] at hc
      obtain ⟨_,hcl,hat⟩:=World.cells?_some hc
      obtain ⟨k0,k1,k2,k3,hk,q0,q1,q2,q3⟩:=read4 he hi hone t0 t1 t2 t3 hcl ht'
      refine ⟨⟨k0,k1,k2,k3⟩,?_,q0,q1,q2,q3⟩
      obtain ⟨b,off,spot⟩:=a
      have c0:=hat 0 (by omega)
      have c1:=hat 1 (by omega)
      have c2:=hat 2 (by omega)
      have c3:=hat 3 (by omega)
      rw [hk] at c0 c1 c2 c3
      simp only [Go.Deep.add_add] at c0 c1 c2 c3
      simp only [List.getElem?_cons_zero,List.getElem?_cons_succ] at c0 c1 c2 c3
      have h1:w.cell? ⟨b,off + (i * 4 + 1),none⟩=some (.int .i64 k1):=by simpa [Addr.add] using c1
      have h2:w.cell? ⟨b,off + (i * 4 + 2),none⟩=some (.int .i64 k2):=by simpa [Addr.add] using c2
      have h3:w.cell? ⟨b,off + (i * 4 + 3),none⟩=some (.int .i64 k3):=by simpa [Addr.add] using c3
      have hspot:spot=none:=by
        obtain ⟨cs2,hc2,_⟩:=hel 0 (by omega)
        rw [hC] at hc2
        have c00:=(World.cells?_some hc2).2.2 0 (by omega)
        have hne:w.cell? ((⟨b,off,spot⟩:Addr).add 0)≠none:=by
          have:w.cell? (((⟨b,off,spot⟩:Addr).add (0 * 4)).add 0)≠none:=by
            rw [c00]
            have:=(World.cells?_some hc2).2.1
            rw [List.getElem?_eq_getElem (by omega)]
            simp
          simpa [Addr.add] using this
        cases hs:spot with
        | none=>rfl
        | some s0 =>
          subst hs
          exfalso
          apply hne
          simp only [Addr.add,if_true]
          unfold World.cell?
          split <;> simp
      subst hspot
      have h0:w.cell? ⟨b,off + i * 4,none⟩=some (.int .i64 k0):=by
        by_cases e0:i=0
        · subst e0;simpa [Addr.add] using c0
        · have e4:¬ i * 4=0:=by omega
          simpa [Addr.add,e4] using c0
      exact ⟨b,off,rfl,h0,h1,h2,h3⟩
    obtain ⟨l,hll,hlp⟩:=choose4 each
    refine ⟨some a,cap,l,by rw [hll],by omega,fun j hj=>?_,fun x hx'=>?_,.inr ⟨_,_,rfl,by simp [hll]⟩⟩
    · obtain ⟨⟨b,off,e,r⟩,_⟩:=hlp j hj
      exact ⟨b,off,by rw [e],r⟩
    · obtain ⟨j,hj,rfl⟩:=List.getElem_of_mem hx'
      exact (hlp j hj).2
theorem open_intsT {t e:TypeId} {cs:List Value} {x:DataW H × List MemPlace} {w:World} {fuel:Nat} (ht:P.underlying t=some (.slice e)) (he:P.underlying e=some (.int .i64)) (hc:P.cellsOf e=1)
    (hf:DataW.trod enc P w 0 (fun _=>true) true fuel t cs=some x) :
    ∃ (a:Option Addr) (cap:Nat) (l:List Int),cs=[.slice a l.length cap]∧l.length≤cap∧IntsIn w a l∧(∀ n∈l,(Lit.int .i64 n).wf=true)∧(x.1=.nil∧l=[]∨∃ D spare,x.1=.slice D spare∧D.length=l.length):=by
  rcases open_ints ht he hc hf with ⟨hcs,hx⟩ | ⟨a,len,cap,zs,hcs,_,hl,hm,hz,hx,hcell,hwz⟩
  · subst hcs hx
    exact ⟨none,0,[],rfl,Nat.le_refl _,fun j hj=>absurd hj (by simp),by simp,.inl ⟨rfl,rfl⟩⟩
  · subst hcs hx
    simp only [if_true] at hz
    have hlz:len≤zs.length:=by omega
    have htl:(zs.take len).length=len:=by rw [List.length_take];omega
    refine ⟨some a,cap,zs.take len,by rw [htl],by omega,fun j hj=>?_,fun n hn=>hwz n (List.mem_of_mem_take hn),.inr ⟨_,_,rfl,by simp [lits]⟩⟩
    rw [htl] at hj
    obtain ⟨b,off,rfl,hc2⟩:=ints_at hcell (by omega)
    refine ⟨b,off,rfl,?_⟩
    rw [hc2 j (by omega),List.getElem_take,List.getD_eq_getElem?_getD,List.getElem?_eq_getElem (by omega)]
    rfl
theorem open_scriptsT {t t2 e ti:TypeId} {f0 f1 f2 f3:Field} {cs:List Value} {x:DataW H × List MemPlace} {w:World} {fuel:Nat} (ht:P.underlying t=some (.slice t2)) (hc2:P.cellsOf t2=1) (ht2:P.underlying t2=some (.slice e)) (he:P.underlying e=some (.struct #[f0,f1,f2,f3])) (hi:P.underlying ti=some (.int .i64))
    (hone:oneCellFields P #[f0,f1,f2,f3]=true) (hC:P.cellsOf e=4) (t0:f0.type=ti) (t1:f1.type=ti) (t2':f2.type=ti) (t3:f3.type=ti)
    (hf:DataW.trod enc P w 0 (fun _=>true) true fuel t cs=some x) :
    ∃ (a:Option Addr) (cap:Nat) (ao:Nat→Option Addr) (acap:Nat→Nat) (ss:List (List A4)),cs=[.slice a ss.length cap]∧ss.length≤cap∧ScriptsIn w a ao acap ss ∧
      (x.1=.nil∧ss=[]∨∃ D spare,x.1=.slice D spare∧D.length=ss.length∧∀ i (h:i < ss.length),∃ d,D[i]?=some d∧(d=.nil∧ss[i]=[]∨∃ D' spare',d=.slice D' spare'∧D'.length=ss[i].length)):=by
  rcases open_slice1 ht hc2 hf with ⟨hcs,hx⟩ | ⟨a,len,cap,m,n,V,D,Pl,hcs,_,hl,hm,hmm,hx,hel⟩
  · subst hcs hx
    exact ⟨none,0,fun _=>none,fun _=>0,[],rfl,Nat.le_refl _,⟨fun j hj=>absurd hj (by simp),fun j hj=>absurd hj (by simp)⟩,.inl ⟨rfl,rfl⟩⟩
  · subst hcs hx
    simp only [if_true] at hmm
    have each:∀ i,i < len→∃ y:Option Addr × Nat × List A4,V i=.slice y.1 y.2.2.length y.2.1∧ActsIn w y.1 y.2.2∧(D i=.nil∧y.2.2=[]∨∃ D' spare',D i=.slice D' spare'∧D'.length=y.2.2.length):=fun i hi'=>by
      obtain ⟨h1,h2⟩:=hel i (by omega)
      obtain ⟨ai,ci,li,e1,_,e2,_,e3⟩:=open_actsT ht2 he hi hone hC t0 t1 t2' t3 h2
      exact ⟨(ai,ci,li),by simpa using e1,e2,e3⟩
    obtain ⟨l,hll,hlp⟩:=chooseN each
    have hspot:0 < len→a.spot=none:=fun h0=>by
      have h1:=(hel 0 (by omega)).1
      have:=World.cell?_spot h1
      simpa [Addr.add] using this
    refine ⟨some a,cap,fun i=>(l.getD i (none,0,[])).1,fun i=>(l.getD i (none,0,[])).2.1,l.map (·.2.2),by simp [hll],by simp [hll];omega,⟨fun j hj=>?_,fun j hj=>?_⟩,.inr ⟨_,_,rfl,by simp [hll],fun i hi'=>?_⟩⟩
    · have hj':j < l.length:=by simpa using hj
      obtain ⟨b,off,spot⟩:=a
      have hs:=hspot (by omega)
      simp only at hs
      subst hs
      refine ⟨b,off,rfl,?_⟩
      have h1:=(hel j (by omega)).1
      rw [← Go.WideShapes.add_plain,h1,(hlp j hj').1]
      simp [List.getD_eq_getElem?_getD,hj']
    · have hj':j < l.length:=by simpa using hj
      have:=(hlp j hj').2.1
      simpa [List.getD_eq_getElem?_getD,hj'] using this
    · have hj':i < l.length:=by simpa using hi'
      refine ⟨D i,by rw [List.getElem?_map,List.getElem?_range (by omega)];rfl,?_⟩
      simpa using (hlp i hj').2.2
theorem mem_weightsAll {e:TypeId} {d:DataW H} {x:Nat}:∀ {l:List (DataW H)},d∈l→x∈d.weights P e→x∈DataW.weightsAll P e l
  | y :: l,h,hx=>by
    unfold DataW.weightsAll
    rw [List.mem_append]
    cases h with
    | head=>exact .inl hx
    | tail _ h=>exact .inr (mem_weightsAll h hx)
theorem len_bound {t e:TypeId} {d:DataW H} {n B:Nat} (ht:P.underlying t=some (.slice e)) (hb:P.bytesOf e=B) (h:d=.nil∧n=0∨∃ D spare,d=.slice D spare∧D.length=n) (hw:∀ x∈DataW.weights P t d,x≤reachBytes):n * B≤140737488351232:=by
  rcases h with ⟨_,rfl⟩ | ⟨D,spare,rfl,hD⟩
  · simp
  · have h1:=weights_slice ht (List.all_eq_true.2 (fun x hx=>by simpa using hw x hx))
    rw [hb,hD] at h1
    have h3:reachBytes=140737488351232:=rfl
    rw [h3] at h1
    have:n * B≤(n + spare.length) * B:=Nat.mul_le_mul_right _ (by omega)
    omega
structure CaseOk (w:World) (v:Value) (ca:Option Addr) (cc:Nat) (cells:List Int) (so:Option Addr) (scap:Nat) (ao:Nat→Option Addr) (acap:Nat→Nat) (ss:List (List A4)) (po:Option Addr) (pc:Nat) (ps:List Int):Prop where
  val:v=.agg #[.slice ca cells.length cc,.slice so ss.length scap,.slice po ps.length pc]
  cells_:IntsIn w ca cells
  scripts:ScriptsIn w so ao acap ss
  picks:IntsIn w po ps
  pcap:ps.length≤pc
  ccap:cells.length≤cc
  n1:cells.length * 8≤140737488351232
  n2:ss.length * 24≤140737488351232
  n3:∀ s∈ss,s.length * 32≤140737488351232
  n4:ps.length * 8≤140737488351232
theorem open_case {t t0 t1 t2 te ti:TypeId} {g0 g1 g2 f0 f1 f2 f3:Field} {v:Value} {d:DataW H} {p:List MemPlace} {w:World} {b0:Nat} (ht:P.underlying t=some (.struct #[g0,g1,g2])) (hgo:oneCellFields P #[g0,g1,g2]=true) (hgc:P.cellsOf t=3)
    (k0:g0.type=t0) (k1:g1.type=t1) (k2:g2.type=t0) (u0:P.underlying t0=some (.slice ti)) (u1:P.underlying t1=some (.slice t2)) (hc2:P.cellsOf t2=1) (ht2:P.underlying t2=some (.slice te)) (he:P.underlying te=some (.struct #[f0,f1,f2,f3])) (hi:P.underlying ti=some (.int .i64)) (hic:P.cellsOf ti=1)
    (hone:oneCellFields P #[f0,f1,f2,f3]=true) (hC:P.cellsOf te=4) (j0:f0.type=ti) (j1:f1.type=ti) (j2:f2.type=ti) (j3:f3.type=ti) (b1:P.bytesOf ti=8) (b2:P.bytesOf t2=24) (b3:P.bytesOf te=32)
    (hv:Value.okWide P w .any b0 t v) (h:DataW.Trod enc P w 0 (fun _=>true) true t v d p) (hw:∀ x∈DataW.weights P t d,x≤reachBytes) :
    ∃ ca cc cells so scap ao acap ss po pc ps,CaseOk w v ca cc cells so scap ao acap ss po pc ps:=by
  obtain ⟨cs,rfl,h2⟩:=okWide_struct ht hv
  rw [hgc] at h2
  obtain ⟨fuel,hf⟩:=h
  obtain ⟨ys,n',_,hy,_,hyl,hfl⟩:=DataW.trod_struct ht hf
  match cs,h2 with
  | ⟨[c0,c1,c2]⟩,_ =>
    match ys,hyl with
    | [y0,y1,y2],_ =>
      obtain ⟨o0,l0⟩:=hone_of hgo 0 g0 rfl
      obtain ⟨o1,l1⟩:=hone_of hgo 1 g1 rfl
      obtain ⟨o2,l2⟩:=hone_of hgo 2 g2 rfl
      have q0:=hfl 0 g0 rfl
      have q1:=hfl 1 g1 rfl
      have q2:=hfl 2 g2 rfl
      rw [o0,l0,k0] at q0
      rw [o1,l1,k1] at q1
      rw [o2,l2,k2] at q2
      obtain ⟨ca,cc,cells,e0,m0,i0,_,x0⟩:=open_intsT u0 hi hic q0
      obtain ⟨so,scap,ao,acap,ss,e1,m1,i1,x1⟩:=open_scriptsT u1 hc2 ht2 he hi hone hC j0 j1 j2 j3 q1
      obtain ⟨po,pc,ps,e2,m2,i2,_,x2⟩:=open_intsT u0 hi hic q2
      simp [Value.cells] at e0 e1 e2
      simp at hy
      subst e0 e1 e2
      obtain ⟨rfl,_⟩:=hy
      have hw0:∀ x,x∈y0.1.weights P t0∨x∈y1.1.weights P t1∨x∈y2.1.weights P t0→x≤reachBytes:=fun x hx=>hw x (by
        unfold DataW.weights
        rw [ht]
        simp only [List.map_cons,List.map_nil,DataW.weightsEach,k0,k1,k2,List.mem_append]
        rcases hx with hx | hx | hx
        · exact .inl hx
        · exact .inr (.inl hx)
        · exact .inr (.inr (.inl hx)))
      refine ⟨ca,cc,cells,so,scap,ao,acap,ss,po,pc,ps,rfl,i0,i1,i2,m2,m0,?_,?_,fun s hs=>?_,?_⟩
      · exact len_bound u0 b1 (x0.imp (fun h=>⟨h.1,by simp [h.2]⟩) id) (fun x hx=>hw0 x (.inl hx))
      · exact len_bound u1 b2 (x1.imp (fun h=>⟨h.1,by simp [h.2]⟩) fun ⟨D,sp,h1,h2,_⟩=>⟨D,sp,h1,h2⟩) (fun x hx=>hw0 x (.inr (.inl hx)))
      · obtain ⟨i,hi',rfl⟩:=List.getElem_of_mem hs
        rcases x1 with ⟨_,h0⟩ | ⟨D,sp,h1,h2,h3⟩
        · subst h0;simp at hi'
        · obtain ⟨di,hd,hdi⟩:=h3 i hi'
          refine len_bound ht2 b3 (hdi.imp (fun h=>⟨h.1,by simp [h.2]⟩) id) (fun x hx=>hw0 x (.inr (.inl ?_)))
          rw [h1]
          unfold DataW.weights
          rw [u1]
          exact List.mem_cons_of_mem _ (List.mem_append.2 (.inl (mem_weightsAll (List.mem_of_getElem? hd) hx)))
      · exact len_bound u0 b1 (x2.imp (fun h=>⟨h.1,by simp [h.2]⟩) id) (fun x hx=>hw0 x (.inr (.inr hx)))
end
end Go.Proofs.Ytndppafplgilbaa
namespace Go.Proofs.Ytndppafplgilbaa
open Go Go.Conc Go.RowKit
open Go.ConcN (sumTo upd sumTo_upd upd_ne upd_same)
set_option maxHeartbeats 16000000 in
theorem thins_wins (W:World) (v0:Value) (ca:Option Addr) (cc:Nat) (cells:List Int) (so:Option Addr) (scap:Nat) (ao:Nat→Option Addr) (acap:Nat→Nat) (ss:List (List A4)) (po:Option Addr) (pc:Nat) (ps:List Int) (X:CaseOk W v0 ca cc cells so scap ao acap ss po pc ps) (kz:Int) (_:(Lit.int .i64 kz).wf=true) :
    Wins Try.prog (LawPost W) (solo (G (Frame.enter Try.prog 5 #[v0,.int .i64 kz] .normal) []) W) #[]:=by
  obtain rfl:=X.val
  refine law_start ?_
  have O:=ownM Try.prog (LawPost W)
  have T:=O.toCtl
  have hq:(Try.prog.funcs[5]?).any (·.norace)=false:=by rw [Try.func5];rfl
  have hh0:=hidesI (l:=[]) (st:=⟨0,0,some 0⟩) (n:=1) (fun h=>by cases h)
  rw [enter_bk Try.func5 rfl]
  walk_nrmf Try.f5
  refine laW ?_
  refine l_new O hh0 (by simp) (hid_nil W) rfl (by rfl) (by kernel_rfl) (fun n=>.pointer (some (c0 n 0))) (c:=#[.slice ca cells.length cc,.slice so ss.length scap,.slice po ps.length pc]) (t:=25) (fun v=>by go_simp) (fun w1 hc1 G1 hl1=>?_)
  walk_nrm
  refine laW ?_
  (refine l_enter T (fn:=Try.f11) (c:=.skip) (g:=11) (xs:=#[]) (by simp) rfl (by rfl) (fun w=>?_) (fun w=>?_) ?_;(focus go_simp);(focus (simp [go_sem,events_into Try.func11 (by kernel_rfl) (by kernel_rfl)])))
  refine awake_at (by omega) _ _ trivial (by simp [bk,Frame.at]) rfl (fun v s' w2 hP=>?_) (fun ch s' w' hP=>by obtain ⟨_,h,_⟩:=hP;cases h)
  obtain ⟨gb,hv,rfl,Aw⟩:=hP
  cases hv
  rw [bk_finish rfl]
  have lw1:∀ k,k < W.heap.size→w1.heap[k]?=W.heap[k]?:=fun k hk=>G1.low k hk (by simp) id
  have A:=Aw.lawAt2 lw1 (by omega)
  have hcB:w2.heap[W.heap.size]?=some (.cells #[.slice ca cells.length cc,.slice so ss.length scap,.slice po ps.length pc] 25 (0,0)):=(Aw.low _ hl1 (by simp)).trans hc1
  have hgb:=Aw.hgb
  have hz2:=Aw.size
  have hcH:W.heap.size ∉ [gb]:=by simp;omega
  clear hc1 G1
  walk_nrm
  refine laW ?_
  (refine l_cond T false (by simp [Act.eval] <;> omega) ?_;simp only [if_true,if_false,Bool.false_eq_true,↓reduceIte])
  refine laW ?_
  have hh:=hidesI (l:=[gb]) (st:=c0 gb 1) (n:=3) A.hst
  have hcp:w2.cell? ⟨W.heap.size,2,none⟩=some (.slice po ps.length pc):=cell_of_heap hcB rfl
  (refine l_loadH O hh (by simp) rfl (by rfl) hcp hcH (fun w₁ hc₁=>⟨by go_simp,by simp [listed,go_sem,hc₁];exact seen_cell hq _ _ _⟩) ?_;walk_nrm)
  refine laW ?_
  (refine l_enter T (fn:=Try.f12) (c:=.skip) (g:=12) (xs:=#[.slice po ps.length pc]) (by simp) rfl (by rfl) (fun w=>?_) (fun w=>?_) ?_;(focus go_simp);(focus (simp [go_sem,events_into Try.func12 (by kernel_rfl) (by kernel_rfl)])))
  have fre:∀ k,k < W.heap.size→k ∉ [gb]:=fun k hk=>A.free hk
  refine cut_calls O (Sk:=fun _=>True) hh A.hid (X.picks.low A.low) (fun g off e hl=>fre _ (X.picks.lt hl e)) X.pcap _ _ trivial (by simp [bk,Frame.at]) rfl (fun v s' w3 hP=>?_) (fun ch s' w' hP=>by cases hP.1)
  obtain ⟨hv,rfl,G3⟩:=hP
  cases hv
  rw [bk_finish rfl]
  have A3:=A.grow G3 fun k h=>h.elim
  have hcB3:=(G3.low _ (by omega) hcH id).trans hcB
  clear hcp
  walk_nrm
  refine laW ?_
  have hcH':¬ (fun k=>k∈[gb]) W.heap.size:=hcH
  refine l_storeM O hh (by simp) A3.hid rfl (by rfl) (by kernel_rfl) hcB3 hcH (off:=2) (y:=.slice po (cutL ps).length pc) (fun v hv=>?_) (fun w4 hcB4 G4 hs4=>?_)
  · have hcell:v.cell? ⟨W.heap.size,2,none⟩=some (.slice po ps.length pc):=cell_of_heap hv rfl
    have hfr:v.frozen? ⟨W.heap.size,2,none⟩=false:=frozen_of_heap hv
    clear hv hcB hcB3
    go_simp
  have A4:=A3.grow G4 fun k h=>by subst h;exact Nat.le_refl _
  have hs3:=G3.size
  replace hcB4:w4.heap[W.heap.size]?=some (.cells #[.slice ca cells.length cc,.slice so ss.length scap,.slice po (cutL ps).length pc] 25 (0,0)):=hcB4
  walk_nrm
  refine laW ?_
  have hcs4:w4.cell? ⟨W.heap.size,1,none⟩=some (.slice so ss.length scap):=cell_of_heap hcB4 rfl
  (refine l_loadH O hh (by simp) rfl (by rfl) hcs4 hcH (fun w₁ hc₁=>⟨by go_simp,by simp [listed,go_sem,hc₁];exact seen_cell hq _ _ _⟩) ?_;walk_nrm)
  refine laW ?_
  have hsl:=ScrBlk.lt' X.scripts
  have hs4s:=X.scripts.at' fun k hk _=>A4.low k hk
  (refine l_enter T (fn:=Try.f15) (c:=.skip) (g:=15) (xs:=#[.slice so ss.length scap]) (by simp) rfl (by rfl) (fun w=>?_) (fun w=>?_) ?_;(focus go_simp);(focus (simp [go_sem,events_into Try.func15 (by kernel_rfl) (by kernel_rfl)])))
  refine to4_calls O (Sk:=fun _=>True) hh A4.hid X.n2 X.n3 hs4s ⟨fun b off e hl=>fre _ (hsl.1 b off e hl),fun j hj b off e hl=>fre _ (hsl.2 j hj b off e hl)⟩ _ _ trivial (by simp [bk,Frame.at]) rfl (fun v s' w5 hP=>?_) (fun ch s' w' hP=>by obtain ⟨_,_,_,_,h,_⟩:=hP;cases h)
  obtain ⟨so',scap',f',c',hv,rfl,G5,hsc5,hbk⟩:=hP
  cases hv
  rw [bk_finish rfl]
  have A5:=A4.grow G5 fun k h=>h.elim
  have z4:=A4.size
  have hcB5:w5.heap[W.heap.size]?=_:=(G5.low _ (Array.getElem?_eq_some_iff.1 hcB4).1 hcH id).trans hcB4
  clear hcs4 hcB hcB3
  walk_nrm
  refine laW ?_
  have hcc5:w5.cell? ⟨W.heap.size,0,none⟩=some (.slice ca cells.length cc):=cell_of_heap hcB5 rfl
  have hcp5:w5.cell? ⟨W.heap.size,2,none⟩=some (.slice po (cutL ps).length pc):=cell_of_heap hcB5 rfl
  (refine l_loadH O hh (by simp) rfl (by rfl) hcc5 hcH (fun w₁ hc₁=>⟨by go_simp,by simp [listed,go_sem,hc₁];exact seen_cell hq _ _ _⟩) ?_;walk_nrm)
  refine laW ?_
  (refine l_loadH O hh (by simp) rfl (by rfl) hcp5 hcH (fun w₁ hc₁=>⟨by go_simp,by simp [listed,go_sem,hc₁];exact seen_cell hq _ _ _⟩) ?_;walk_nrm)
  refine laW ?_
  (refine l_enter T (fn:=Try.f14) (c:=.skip) (g:=14) (xs:=#[.slice ca cells.length cc,.slice so' ss.length scap',.slice po (cutL ps).length pc]) (by simp) rfl (by rfl) (fun w=>?_) (fun w=>?_) ?_;(focus go_simp);(focus (simp [go_sem,events_into Try.func14 (by kernel_rfl) (by kernel_rfl)])))
  have bkN:∀ x,ScrBlk so' f' ss x→x ∉ [gb]:=fun x hx h=>by
    have h1:=hbk x hx
    have h2:=A4.hid.lt h
    omega
  have hci5:IntsIn w5 ca cells:=X.cells_.low A5.low
  have hpi5:IntsIn w5 po (cutL ps):=cutL_in (X.picks.low A5.low)
  have hsF:ScrFree (fun k=>k∈[gb]) so' f' ss:=⟨fun b off e hl=>bkN b (.inl ⟨off,e⟩),fun j hj b off e hl=>bkN b (.inr ⟨j,hj,hl,off,e⟩)⟩
  have cutlt:∀ b off,po=some ⟨b,off,none⟩→cutL ps≠[]→b < W.heap.size:=fun b off e hl=>X.picks.lt (fun e=>hl (by rw [e];rfl)) e
  by_cases he:playErr cells ss (cutL ps)=0
  · obtain ⟨y1,y2,y3,y4,y5,y6⟩:=playErr_zero he
    have hnums5:NumsAt (fun b=>b ∉ [gb]∧¬ ScrBlk so' f' ss b) po (cutL ps) w5:=numsAt_of hpi5 fun b off e hl=>⟨fre _ (cutlt b off e hl),fun hb=>by have:=hbk _ hb;have:=cutlt b off e hl;omega⟩
    refine play_calls (Post:=LawPost W) (cells:=cells) (ss:=ss) (ps:=cutL ps) A5.hst A5.hid (.inr A5.cnt) (by omega) y4 y1 y2 y3 y5 y6 hci5 (fun b off e hl=>fre _ (X.cells_.lt hl e)) hsc5 hsF hnums5 _ _ trivial (by simp [bk,Frame.at]) rfl (fun v s' w6 hP=>?_) (fun ch s' w' hP=>by obtain ⟨_,_,_,_,_,_,h,_⟩:=hP;cases h)
    obtain ⟨gb2,stv,ev,pv,anv,fv,hv,rfl,D⟩:=hP
    cases hv
    rw [bk_finish rfl]
    obtain ⟨q1,hq1⟩:∃ q,q=((PQ.start cells ss).runs ss.length (cutL ps)).1:=⟨_,rfl⟩
    obtain ⟨st1,hst1⟩:∃ x,x=((PQ.start cells ss).runs ss.length (cutL ps)).2:=⟨_,rfl⟩
    rw [← hq1,← hst1] at D
    have hlen1:st1.length=(cutL ps).length:=by rw [hst1];exact PQ.runs_len _ _ _
    have hlt5:=(Array.getElem?_eq_some_iff.1 hcB5).1
    have Hlen:=Lib.hid hlen1
    have Hthin:=Lib.hid (show (PQ.start cells ss).runs ss.length (thin st1)=(q1,worked st1) by rw [hst1,hq1];exact PQ.runs_thin _ _ _ (good_start y6))
    have Hq:=Lib.hid hq1
    have Hst:=Lib.hid hst1
    clear hq1 hst1 hlen1
    have z5:=A5.size
    have zD:=D.size
    have hgD:=D.hgb
    have A6:=A5.play D
    have hh:=hidesI (l:=gb2 :: [gb]) (st:=c0 gb2 1) (n:=3 + ss.length) A6.hst
    have fre6:∀ k,k < W.heap.size→k ∉ gb2 :: [gb]:=fun k hk=>A6.free hk
    have hcB6:w6.heap[W.heap.size]?=_:=(D.low _ (Array.getElem?_eq_some_iff.1 hcB5).1 hcH).trans hcB5
    have hcH6:W.heap.size ∉ gb2 :: [gb]:=by simp;omega
    have P6:=D.rows
    obtain ⟨sa,sc,ea,ec,pa,pcc,ansB,fa,fc,rfl,rfl,rfl,rfl,rfl,hmq,hsi6,_,_,_,_⟩:=P6.ins
    have Hmq:=Lib.hid hmq
    clear hmq
    have Hsc:=Lib.hid (show (sa=none∧st1.length=0∧sc=0)∨∃ g,sa=some ⟨g,0,none⟩∧st1.length≤sc by
      rcases P6.st.2 with ⟨h1,h2⟩ | ⟨g,cap,cur,h1,h2,h3,h4,_⟩
      · injection h1 with a1 a2 a3
        exact .inl ⟨a1,a2,a3⟩
      · injection h1 with a1 a2 a3
        exact .inr ⟨g,a1,by omega⟩)
    have hsaH:∀ g off,sa=some ⟨g,off,none⟩→st1≠[]→w5.heap.size≤g∧g ∉ gb2 :: [gb]:=fun g off e _=>P6.fresh g (.inl (by subst e;rfl))
    walk_nrm
    refine laW ?_
    refine l_new O hh (by simp) A6.hid rfl (by rfl) (by kernel_rfl) (fun n=>.pointer (some (c0 n 0))) (c:=zeroPlayed) (t:=38) (fun v=>by clear hcB4 hcB5 hcB6 hsc5 hci5 hpi5 P6 D hsi6;go_simp) (fun w7 hp7 G7 hl7=>?_)
    have A7:=A6.grow G7 fun k h=>h.elim
    have hpH:w6.heap.size ∉ gb2 :: [gb]:=A6.far' (Nat.le_refl _)
    have hi5:(Try.prog.info? 38).map (·.size)=some 5:=by kernel_rfl
    have z6:=A6.size
    have P7:=P6.keep (w':=w7) (l':=w6.heap.size :: gb2 :: [gb]) (fun x hx hn=>by
      rcases List.mem_cons.1 hx with rfl | hx
      · exact Nat.le_refl _
      · exact absurd hx hn) fun g h1 h2 h3=>G7.low g h2 h3 id
    walk_nrm
    refine l_storeRow O hh (cells:=#[.slice sa st1.length sc,.slice ea ss.length ec,.slice pa ss.length pcc,.slice (some ⟨ansB,0,none⟩) ss.length ss.length,.slice fa cells.length fc]) (by simp) A7.hid rfl (by rfl) rfl (by simp [Act.eval]) (by simp [Act.eval]) hp7 hpH hi5 rfl (by simp [Value.oneCell']) (fun w8 hp8 G8 hs8=>?_)
    have A8:=A7.grow G8 fun k h=>by subst h;exact z6
    have P8:=P7.keep (w':=w8) (l':=w6.heap.size :: gb2 :: [gb]) (fun x hx hn=>absurd hx hn) fun g h1 h2 h3=>G8.low g h2 (fun h=>h3 (List.mem_cons_of_mem _ h)) fun h=>h3 (by rw [h];exact List.mem_cons_self ..)
    have G68:Grow (c0 gb2 1) (fun k=>k∈gb2 :: [gb]) (fun k=>k=w6.heap.size) w6 w8:=G7.transN A6.hst G8 (fun _ h=>h.elim) (fun k hk h=>h)
    have hcB8:w8.heap[W.heap.size]?=_:=(G68.low _ (by omega) hcH6 (by omega)).trans hcB6
    have lo58:∀ k,k < w5.heap.size→k ∉ [gb]→w8.heap[k]?=w5.heap[k]?:=fun k hk hn=>(G68.low k (by omega) (fun h=>by
      rcases List.mem_cons.1 h with e | h
      · omega
      · exact hn h) (by omega)).trans (D.low k hk hn)
    walk_nrm
    refine laW ?_
    (refine l_cond T false (by simp [Act.eval] <;> omega) ?_;simp only [if_true,if_false,Bool.false_eq_true,↓reduceIte])
    refine laW ?_
    have k0:w8.cell? ⟨w6.heap.size,0,none⟩=some (.slice sa st1.length sc):=cell_of_heap hp8 rfl
    (refine l_loadH O hh (by simp) rfl (by rfl) k0 hpH (fun w₁ hc₁=>⟨by go_simp,by simp [listed,go_sem,hc₁];exact seen_cell hq _ _ _⟩) ?_;walk_nrm)
    refine laW ?_
    have hsi8:StepsIn w8 sa st1:=hsi6.at' fun b off e hl=>G68.low b (hsi6.lt hl e) (hsaH b off e hl).2 (by have:=hsi6.lt hl e;omega)
    (refine l_enter T (fn:=Try.f19) (c:=.skip) (g:=19) (xs:=#[.slice sa st1.length sc]) (by simp) rfl (by rfl) (fun w=>?_) (fun w=>?_) ?_;(focus go_simp);(focus (simp [go_sem,events_into Try.func19 (by kernel_rfl) (by kernel_rfl)])))
    refine thin_calls O (Sk:=fun _=>True) hh A8.hid (by have:=Hlen.out;have:=cutL_le ps;have:=X.n4;omega) hsi8 (fun g off e hl=>(hsaH g off e hl).2) _ _ trivial (by simp [bk,Frame.at]) rfl (fun v s' w9 hP=>?_) (fun ch s' w' hP=>by obtain ⟨_,h,_⟩:=hP;cases h)
    obtain ⟨tv,hv,rfl,G9,hto⟩:=hP
    cases hv
    rw [bk_finish rfl]
    obtain ⟨ta,tc,rfl,hti9⟩:=RowI.intsIn hto
    have htlt:∀ b off,ta=some ⟨b,off,none⟩→thin st1≠[]→w8.heap.size≤b∧b < w9.heap.size:=fun b off e hl=>(hto.lt b (by subst e;rfl))
    have A9:=A8.grow G9 fun k h=>h.elim
    have z8:=A8.size
    have zz:=G68.size
    have z9:=G9.size
    have P9:=P8.keep (w':=w9) (l':=w6.heap.size :: gb2 :: [gb]) (fun x hx hn=>absurd hx hn) fun g h1 h2 h3=>G9.low g h2 (fun h=>h3 (List.mem_cons_of_mem _ h)) id
    have hcB9:w9.heap[W.heap.size]?=_:=(G9.low _ (Array.getElem?_eq_some_iff.1 hcB8).1 hcH6 id).trans hcB8
    have hp9:w9.heap[w6.heap.size]?=_:=(G9.low _ (Array.getElem?_eq_some_iff.1 hp8).1 hpH id).trans hp8
    have lo59:∀ k,k < w5.heap.size→k ∉ [gb]→w9.heap[k]?=w5.heap[k]?:=fun k hk hn=>(G9.low k (by omega) (fun h=>by
      rcases List.mem_cons.1 h with e | h
      · omega
      · exact hn h) id).trans (lo58 k hk hn)
    clear hsi6 hsi8 k0
    walk_nrm
    refine laW ?_
    have hcc9:w9.cell? ⟨W.heap.size,0,none⟩=some (.slice ca cells.length cc):=cell_of_heap hcB9 rfl
    (refine l_loadH O hh (by simp) rfl (by rfl) hcc9 hcH6 (fun w₁ hc₁=>⟨by go_simp,by simp [listed,go_sem,hc₁];exact seen_cell hq _ _ _⟩) ?_;walk_nrm)
    refine laW ?_
    (refine l_enter T (fn:=Try.f14) (c:=.skip) (g:=14) (xs:=#[.slice ca cells.length cc,.slice so' ss.length scap',.slice ta (thin st1).length tc]) (by simp) rfl (by rfl) (fun w=>?_) (fun w=>?_) ?_;(focus go_simp);(focus (simp [go_sem,events_into Try.func14 (by kernel_rfl) (by kernel_rfl)])))
    have hci9:IntsIn w9 ca cells:=X.cells_.low A9.low
    have hsc9:ScriptsIn w9 so' f' c' ss:=hsc5.at' fun k hk hb=>lo59 k hk (bkN k hb)
    have hle1:(thin st1).length≤(cutL ps).length:=by have:=thin_le st1;have:=Hlen.out;omega
    have he2:playErr cells ss (thin st1)=0:=playErr_same he hle1
    have hnums9:NumsAt (fun b=>b ∉ gb2 :: [gb]∧¬ ScrBlk so' f' ss b) ta (thin st1) w9:=numsAt_of hti9 fun b off e hl=>⟨A8.far' (htlt b off e hl).1,fun hb=>by have:=hbk _ hb;have:=(htlt b off e hl).1;omega⟩
    have bkN6:∀ x,ScrBlk so' f' ss x→x ∉ gb2 :: [gb]:=fun x hx h=>by
      rcases List.mem_cons.1 h with e | h
      · have:=hbk x hx;omega
      · exact bkN x hx h
    refine play_calls (Post:=LawPost W) (cells:=cells) (ss:=ss) (ps:=thin st1) A9.hst A9.hid (.inr A9.cnt) (by omega) y4 y1 y2 (by omega) y5 y6 hci9 (fun b off e hl=>fre6 _ (X.cells_.lt hl e)) hsc9 ⟨fun b off e hl=>bkN6 b (.inl ⟨off,e⟩),fun j hj b off e hl=>bkN6 b (.inr ⟨j,hj,hl,off,e⟩)⟩ hnums9 _ _ trivial (by simp [bk,Frame.at]) rfl (fun v s' w10 hP=>?_) (fun ch s' w' hP=>by obtain ⟨_,_,_,_,_,_,h,_⟩:=hP;cases h)
    obtain ⟨gb3,stv2,ev2,pv2,anv2,fv2,hv,rfl,D2'⟩:=hP
    cases hv
    rw [bk_finish rfl]
    have D2:PlayDone (gb2 :: [gb]) gb3 cells ss.length q1 (worked st1) stv2 ev2 pv2 anv2 fv2 w9 w10:=by have:=D2';rw [Hthin.out] at this;exact this
    clear D2'
    have zD2:=D2.size
    have hgD2:=D2.hgb
    have A10:=A9.play D2
    have hh:=hidesI (l:=gb3 :: gb2 :: [gb]) (st:=c0 gb3 1) (n:=3 + ss.length + ss.length) A10.hst
    have hpl9:=(Array.getElem?_eq_some_iff.1 hp9).1
    have mem3:∀ x,x∈gb3 :: gb2 :: [gb]→x∈gb2 :: [gb]∨w9.heap.size≤x:=fun x hx=>by
      rcases List.mem_cons.1 hx with e | hx
      · exact .inr (by omega)
      · exact .inl hx
    have P10:=P9.keep (w':=w10) (l':=w6.heap.size :: gb3 :: gb2 :: [gb]) (fun x hx hn=>by
      rcases List.mem_cons.1 hx with e | hx
      · exact absurd (by rw [e];exact List.mem_cons_self ..) hn
      · rcases mem3 x hx with h | h
        · exact absurd (List.mem_cons_of_mem _ h) hn
        · exact h) fun g h1 h2 h3=>D2.low g h2 fun h=>h3 (List.mem_cons_of_mem _ h)
    have Q10:=D2.rows
    obtain ⟨sa2,sc2,ea2,ec2,pa2,pcc2,ansB2,fa2,fc2,rfl,rfl,rfl,rfl,rfl,hmq2,_⟩:=Q10.ins
    clear hmq2
    have hp10:w10.heap[w6.heap.size]?=_:=(D2.low _ hpl9 hpH).trans hp9
    have hpH3:w6.heap.size ∉ gb3 :: gb2 :: [gb]:=fun h=>by
      rcases mem3 _ h with h | h
      · exact hpH h
      · omega
    have hcH3:W.heap.size ∉ gb3 :: gb2 :: [gb]:=fun h=>by
      rcases mem3 _ h with h | h
      · exact hcH6 h
      · omega
    have hcB10:w10.heap[W.heap.size]?=_:=(D2.low _ (by omega) hcH6).trans hcB9
    have hti10:IntsIn w10 ta (thin st1):=hti9.at' fun b off e hl=>D2.low b (htlt b off e hl).2 (A8.far' (htlt b off e hl).1)
    have htH:∀ b off,ta=some ⟨b,off,none⟩→thin st1≠[]→b ∉ gb3 :: gb2 :: [gb]∧b < w10.heap.size:=fun b off e hl=>⟨fun h=>by
      rcases mem3 _ h with h | h
      · exact A8.far' (htlt b off e hl).1 h
      · have:=(htlt b off e hl).2;omega,by have:=(htlt b off e hl).2;omega⟩
    clear hcB9 hp9 hti9 hnums9 hcc9 hci9 hsc9 D P6 P7 P8 P9
    walk_nrm
    refine laW ?_
    refine l_new O hh (by simp) A10.hid rfl (by rfl) (by kernel_rfl) (fun n=>.pointer (some (c0 n 0))) (c:=zeroPlayed) (t:=38) (fun v=>by clear hcB4 hcB5 hcB6 hcB8 hcB10 hp10 hp8 hsc5 hci5 hpi5 P10 Q10 hti10;go_simp) (fun w11 hp11 G11 hl11=>?_)
    have A11:=A10.grow G11 fun k h=>h.elim
    have hp2H:w10.heap.size ∉ gb3 :: gb2 :: [gb]:=A10.far' (Nat.le_refl _)
    have z10:=A10.size
    walk_nrm
    refine l_storeRow O hh (cells:=#[.slice sa2 (worked st1).length sc2,.slice ea2 ss.length ec2,.slice pa2 ss.length pcc2,.slice (some ⟨ansB2,0,none⟩) ss.length ss.length,.slice fa2 cells.length fc2]) (by simp) A11.hid rfl (by rfl) rfl (by simp [Act.eval]) (by simp [Act.eval]) hp11 hp2H hi5 rfl (by simp [Value.oneCell']) (fun w12 hp12 G12 hs12=>?_)
    have A12:=A11.grow G12 fun k h=>by subst h;exact z10
    have G1012:Grow (c0 gb3 1) (fun k=>k∈gb3 :: gb2 :: [gb]) (fun k=>k=w10.heap.size) w10 w12:=G11.transN A10.hst G12 (fun _ h=>h.elim) (fun k hk h=>h)
    have zG:=G1012.size
    have P12:=P10.keep (w':=w12) (l':=w6.heap.size :: gb3 :: gb2 :: [gb]) (fun x hx hn=>absurd hx hn) fun g h1 h2 h3=>G1012.low g h2 (fun h=>h3 (List.mem_cons_of_mem _ h)) (by omega)
    have Q12:=Q10.keep (w':=w12) (l':=gb3 :: gb2 :: [gb]) (fun x hx hn=>absurd hx hn) fun g h1 h2 h3=>G1012.low g h2 h3 (by omega)
    have hp1b:w12.heap[w6.heap.size]?=_:=(G1012.low _ (by omega) hpH3 (by omega)).trans hp10
    have hcB12:w12.heap[W.heap.size]?=_:=(G1012.low _ (by omega) hcH3 (by omega)).trans hcB10
    have hti12:IntsIn w12 ta (thin st1):=hti10.at' fun b off e hl=>G1012.low b (htH b off e hl).2 (htH b off e hl).1 (by have:=(htH b off e hl).2;omega)
    clear hp10 hcB10 hti10 P10 Q10 hcB4 hcB5 hcB6 hcB8 hp8 hp7 hp11
    walk_nrm
    ((co_applyP (l_val T (by simp) rfl (by rfl) (fun w=>run_eq_of ?_) (fun w=>?_) ?_);rotate_left;(focus (intro K hK;go_simp;exact hK));(focus (solve | simp [go_sem])));walk_nrm)
    (refine l_end T ?_)
    refine l_seq T ?_
    have hp12':w12.heap[w10.heap.size]?=some (.cells #[.slice sa2 (thin st1).length sc2,.slice ea2 ss.length ec2,.slice pa2 ss.length pcc2,.slice (some ⟨ansB2,0,none⟩) ss.length ss.length,.slice fa2 cells.length fc2] 38 (0,0)):=by rw [← worked_len];exact hp12
    have key0:=fun v (M:Masked (fun x=>x∈gb3 :: gb2 :: [gb]) 0 v w12)=>thins_chk sa ea pa fa sa2 ea2 pa2 fa2 ta st1.length (thin st1).length ss.length cells.length sc ec pcc ansB fc sc2 ec2 pcc2 ansB2 fc2 tc w6.heap.size w10.heap.size st1 _ _ q1.cs v (worked_len st1).symm (by simp) (by simp) Hmq.out (by have:=Hlen.out;omega) y2 y4 P12.few (M.seen hpH3 hp1b) (M.seen hp2H hp12')
      (P12.masked (fun x h=>List.mem_cons_of_mem _ h) M).ins2.2.2.2.1 (Q12.masked (fun x h=>h) M).ins2.2.2.2.1 (P12.masked (fun x h=>List.mem_cons_of_mem _ h) M).ins2.2.2.2.2.1 (Q12.masked (fun x h=>h) M).ins2.2.2.2.2.1 (P12.masked (fun x h=>List.mem_cons_of_mem _ h) M).ins2.2.1 (Q12.masked (fun x h=>h) M).ins2.2.1 (Q12.masked (fun x h=>h) M).ins2.1 (M.ints hti12 fun b off e hl=>(htH b off e hl).1)
    simp only [thinsB10,seqL,seqR,Option.getD_some,Try.f5] at key0
    refine l_piece O closedB hh ⟨_,Try.func5⟩ (by kernel_rfl) (slots_nil rfl _) A12.hid (R:=fun v a u=>Below v.heap.size v u∧∃ z10 z11 z12 z13 z14 z15 z16 z17 z18 z19 z20 z21 z22 z23 z24 z25 z26 z27 z28 z29 z30 z31 z32 z33 z34 z35 z36 z37 z38 z39 z40 z41 z42 z43 z44 z45 z46 z47 z48 z49 z50 z51 z52 z53 z54 z55 z56 z57 z58 z59 z60 z61 z62 z63 z64 z65 z66 z67 z68 z69 z70 z71 z72 z73 z74 z75 z76 z77 z78 z79 z80 z81 z82 z83 z84 z85 z86 z87 z88 z89 z90 z91 z92 z93 z94 z95 z96 z97 z98 z99 z100 z101 z102 z103 z104 z105 z106 z107 z108 z109 z110 z111 z112 z113 z114 z115 z116 z117 z118 z119 z120 z121 z122 z123 z124 z125 z126 z127 z128 z129 z130 z131 z132:Value,a.tmps=#[.agg #[.slice ca cells.length cc,.slice so ss.length scap,.slice po ps.length pc],.int .i64 kz,.pointer (some (c0 W.heap.size 0)),undef,.bool false,.slice so' ss.length scap',.pointer (some ⟨w6.heap.size,0,none⟩),.int .i64 0,.slice ta (thin st1).length tc,.pointer (some ⟨w10.heap.size,0,none⟩),z10,z11,z12,z13,z14,z15,z16,z17,z18,z19,z20,z21,z22,z23,z24,z25,z26,z27,z28,z29,z30,z31,z32,z33,z34,z35,z36,z37,z38,z39,z40,z41,z42,z43,z44,z45,z46,z47,z48,z49,z50,z51,z52,z53,z54,z55,z56,z57,z58,z59,z60,z61,z62,z63,z64,z65,z66,z67,z68,z69,z70,z71,z72,z73,z74,z75,z76,z77,z78,z79,z80,z81,z82,z83,z84,z85,z86,z87,z88,z89,z90,z91,z92,z93,z94,z95,z96,z97,z98,z99,z100,z101,z102,z103,z104,z105,z106,z107,z108,z109,z110,z111,z112,z113,z114,z115,z116,z117,z118,z119,z120,z121,z122,z123,z124,z125,z126,z127,z128,z129,z130,z131,z132]) (fun v M=>Code.wp_mono (fun e a u hq=>?_) (key0 v M _ _ _ _ _ _ _ _ _ _ _ _ _ _ _ _ _ _ _ _ _ _ _ _ _ _ _ _ _ _ _ _ _ _ _ _ _ _ _ _ _ _ _ _ _ _ _ _ _ _ _ _ _ _ _ _ _ _ _ _ _ _ _ _ _ _ _ _ _ _ _ _ _ _ _ _ _ _ _ _ _ _ _ _ _ _ _ _ _ _ _ _ _ _ _ _ _ _ _ _ _ _ _ _ _ _ _ _ _ _ _ _ _ _ _ _ _ _ _ _ _ _ _ _ _ _ _ _ _)) (fun v ts v' w13 M hR Al=>?_)
    · obtain ⟨h1,h2,h3,h4⟩:=hq
      exact ⟨h1,h2,h3,h4⟩
    clear key0
    obtain ⟨hbw,hts⟩:=hR
    have G13:Grow (c0 gb3 1) (fun k=>k∈gb3 :: gb2 :: [gb]) (fun _=>False) w12 w13:=Al.grow M fun k hk _=>hbw.block k hk
    have zG13:=G13.size
    have A13:=A12.grow G13 fun k h=>h.elim
    have hp1c:w13.heap[w6.heap.size]?=_:=(G13.low _ (Array.getElem?_eq_some_iff.1 hp1b).1 hpH3 id).trans hp1b
    have hcB13:w13.heap[W.heap.size]?=_:=(G13.low _ (Array.getElem?_eq_some_iff.1 hcB12).1 hcH3 id).trans hcB12
    have P13:=P12.keep (w':=w13) (l':=w6.heap.size :: gb3 :: gb2 :: [gb]) (fun x hx hn=>absurd hx hn) fun g h1 h2 h3=>G13.low g h2 (fun h=>h3 (List.mem_cons_of_mem _ h)) id
    have lo513:∀ k,k < w5.heap.size→k ∉ [gb]→w13.heap[k]?=w5.heap[k]?:=fun k hk hn=>by
      have h3:k ∉ gb3 :: gb2 :: [gb]:=fun h=>by
        rcases mem3 k h with h | h
        · rcases List.mem_cons.1 h with e | h
          · omega
          · exact hn h
        · omega
      have h2:k ∉ gb2 :: [gb]:=fun h=>h3 (List.mem_cons_of_mem _ h)
      exact (G13.low k (by omega) h3 id).trans ((G1012.low k (by omega) h3 (by omega)).trans ((D2.low k (by omega) h2).trans (lo59 k hk hn)))
    clear hp1b hcB12 hti12 P12 Q12 M Al hp12 hp12'
    have key:=thins_b (ca:=ca) (cc:=cc) (po:=po) (pc:=pc) (so:=so') (scap:=scap') (ao:=f') (acap:=c') (sc:=sc) (kz:=kz) (st1:=st1) A13 (n0:=3 + ss.length + ss.length) (by omega) hcB13 hcH3 (Nat.le_trans (cutL_le ps) X.pcap) he (X.cells_.low A13.low) (fun b off e hl=>A13.free (X.cells_.lt hl e)) (hsc5.at' fun k hk hb=>lo513 k hk (bkN k hb)) (fun x hx=>⟨fun h=>by
      rcases mem3 x h with h | h
      · exact bkN6 x hx h
      · have:=hbk x hx;omega,by have:=hbk x hx;omega⟩) (cutL_in (X.picks.low A13.low)) (fun b off e hl=>⟨A13.free (cutlt b off e hl),fun hb=>by have:=hbk _ hb;have:=cutlt b off e hl;omega⟩) Hst.out hp1c rfl hpH3 P13.ins2.1 (fun b off e hl=>fun h=>(P13.fresh b (.inl (by subst e;rfl))).2 (List.mem_cons_of_mem _ h)) Hsc.out hts
    simp only [thinsB12,seqR,Option.getD_some,Try.f5] at key
    exact key
  · have he':(playErr cells ss (cutL ps) != 0)=true:=by rw [bne_iff_ne];exact he
    refine playErr_calls (Post:=LawPost W) (cells:=cells) (ss:=ss) (ps:=cutL ps) A5.hst A5.hid he hci5 (fun b off e hl=>fre _ (X.cells_.lt hl e)) hsc5 hsF _ _ trivial (by simp [bk,Frame.at]) rfl (fun v s' w6 hP=>?_) (fun ch s' w' hP=>by cases hP.1)
    obtain ⟨hv,rfl,G6⟩:=hP
    cases hv
    rw [bk_finish rfl]
    have A6:=A5.grow G6 fun k h=>h.elim
    walk_nrm
    refine laW ?_
    refine l_new O hh (by simp) A6.hid rfl (by rfl) (by kernel_rfl) (fun n=>.pointer (some (c0 n 0))) (c:=zeroPlayed) (t:=38) (fun v=>by clear hcB4 hcB5 hsc5 hci5 hpi5;go_simp) (fun w7 hp7 G7 hl7=>?_)
    have A7:=A6.grow G7 fun k h=>h.elim
    have hpH:w6.heap.size ∉ [gb]:=A6.far' (Nat.le_refl _)
    have hi5:(Try.prog.info? 38).map (·.size)=some zeroPlayed.size:=by kernel_rfl
    walk_nrm
    refine l_storeRow O hh (cells:=zeroPlayed) (by simp) A7.hid rfl (by rfl) rfl (by simp [Act.eval]) (by simp [Act.eval]) hp7 hpH hi5 rfl (by kernel_rfl) (fun w8 hp8 G8 hs8=>?_)
    have z6:=A6.size
    have A8:=A7.grow G8 fun k h=>by subst h;exact z6
    walk_nrm
    refine laW ?_
    (refine l_cond T true (by simp [Act.eval] <;> omega) ?_;simp only [if_true,if_false,Bool.false_eq_true,↓reduceIte])
    refine laW ?_
    have k0:w8.cell? ⟨w6.heap.size,0,none⟩=some (.slice none 0 0):=cell_of_heap hp8 rfl
    have k4:w8.cell? ⟨w6.heap.size,4,none⟩=some (.slice none 0 0):=cell_of_heap hp8 rfl
    (refine l_loadH O hh (by simp) rfl (by rfl) k0 hpH (fun w₁ hc₁=>⟨by go_simp,by simp [listed,go_sem,hc₁];exact seen_cell hq _ _ _⟩) ?_;walk_nrm)
    refine laW ?_
    (refine l_loadH O hh (by simp) rfl (by rfl) k4 hpH (fun w₁ hc₁=>⟨by go_simp,by simp [listed,go_sem,hc₁];exact seen_cell hq _ _ _⟩) ?_;walk_nrm)
    refine laW ?_
    exact law_retL (by kernel_rfl) Try.func5 (resultsC_tmp (P:=Try.prog) (fn:=Try.f5) (t:=4) rfl _) A8
end Go.Proofs.Ytndppafplgilbaa
namespace Go.Proofs.Ytndppafplgilbaa.batonThins
open Go.ChangeShapes Go.WideShapes Go.ChangeAt Go.RowKit
open Go.ChangeMaps (open_string shut_string)
theorem own:ownKnob Try.prog.godebug=none:=by kernel_rfl
theorem laidOut:laidOutB Try.prog=true:=by kernel_rfl
theorem paramsOk:∀ t∈Try.f5.params.toList,Try.prog.readableRec t=true∧t < Try.prog.types.size:=by
  have h:(Try.f5.params.toList.all fun t=>Try.prog.readableRec t && decide (t < Try.prog.types.size))=true:=by kernel_rfl
  intro t ht
  have:=List.all_eq_true.1 h t ht
  simpa using this
set_option maxRecDepth 100000 in
theorem lifted (os:Os) (started:os.Started) (H:Type) (enc:TypeId × Value→H) :
    ReturnsInLeavingWide {} Try.checked os 5 .any (Rows.batonThinsSpec.pre6 enc Try.prog Try.f5 Rows.batonThinsRow.domain false) (Rows.batonThinsSpec.post enc Try.prog Try.f5 false true false false):=by
  refine returnsInLeavingWide_of_change_sized (C:=Try.checked) own started Try.func5
    (ChangeSpec.witness6 (enc:=enc) (C:=Try.checked) false ⟨#[],#[.agg #[.slice none 0 0,.slice none 0 0,.slice none 0 0],.int .i64 0],[]⟩ 8 (by kernel_rfl) (by kernel_rfl) (by kernel_rfl) (by kernel_rfl)) ?_
  intro W base args ds gs before hval0 hW hcnd hsz _
  have hval:∀ (j:Nat) t v,Try.f5.params[j]?=some t→args[j]?=some v→Value.okWide Try.prog W .any base t v:=hval0
  have hW':=hW
  obtain ⟨p,q,hA0,hV,rfl,hfz,hnd⟩:=hW
  have hA:DataW.TrodAll enc Try.prog W 0 (fun _=>true) true Try.f5.params.toList args.toList ds p:=hA0
  rw [Try.params5] at hA hval
  obtain ⟨v0,vs0,d0,ds0,p0,q0,hargs,rfl,rfl,h0,r0'⟩:=trodAll_cons hA
  obtain ⟨v1,vs1,d1,ds1,p1,q1,rfl,rfl,rfl,h1,r1'⟩:=trodAll_cons r0'
  obtain ⟨rfl,rfl,rfl⟩:=trodAll_nil r1'
  obtain rfl:args=#[v0,v1]:=by cases args;simp_all
  obtain ⟨rfl,rfl⟩:=trodVars_none hV
  have hts:=paramsOk
  obtain ⟨x1,rfl,rfl,rfl,w1⟩:=open_int Try.underlying3 (hval 1 3 v1 rfl rfl) h1
  have hw0:(DataW.weightsEach Try.prog (Try.f5.params.toList ++ []) ([d0,(.lit (.int .i64 x1))] ++ [])).all (·≤reachBytes)=true:=hsz
  rw [List.append_nil,List.append_nil] at hw0
  have hw:∀ x∈DataW.weightsEach Try.prog Try.f5.params.toList [d0,(.lit (.int .i64 x1))],x≤reachBytes:=fun x hx=>by simpa using List.all_eq_true.1 hw0 x hx
  rw [Try.params5] at hw
  obtain ⟨ca0,cc0,cells0,so0,scap0,ao0,acap0,ss0,po0,pc0,ps0,X0⟩:=open_case Try.underlying25 (by kernel_rfl) (by kernel_rfl) rfl rfl rfl Try.underlying22 Try.underlying23 (by kernel_rfl) Try.underlying106 Try.underlying108 Try.underlying3 (by kernel_rfl) (by kernel_rfl) (by kernel_rfl) rfl rfl rfl rfl (by kernel_rfl) (by kernel_rfl) (by kernel_rfl) (hval 0 25 v0 rfl rfl) h0 (fun x hx=>hw x (by simp [DataW.weightsEach,hx]))
  obtain ⟨M,last,o,w',t',g1,g2,g3,g4⟩:=thins_wins W v0 ca0 cc0 cells0 so0 scap0 ao0 acap0 ss0 po0 pc0 ps0 X0 x1 w1
  exact ⟨M,last,o,w',t',g1,g2,g3,g4.mono fun v hp=>law_postL hW' rfl rfl rfl Try.underlying4 laidOut hts hp⟩
theorem over:Rows.batonThinsRow.holds Try.pinned (OpenSpec.ofChange Rows.batonThinsSpec) :=
  OpenClaim.holds_of_wide_leaving 5 Try.f5 rfl rfl rfl rfl rfl rfl rfl ⟨rfl,rfl,rfl,rfl,rfl⟩ rfl rfl rfl rfl rfl (by kernel_rfl) Try.func5 (by kernel_rfl)
    (of_decide_eq_true (by kernel_rfl)) (by unfold Func.isWrapper;first | (rw [if_pos (by decide +kernel)];kernel_rfl) | (rw [if_neg (by decide +kernel)];exact ⟨rfl,rfl⟩))
    (fun os started H enc _=>lifted os started H enc)
theorem proved:Rows.BatonThinsSaid:=over
end Go.Proofs.Ytndppafplgilbaa.batonThins
