/-
  larchlaw04.BatonThins returns true for every input. No condition. (Part 40 of 49; joined by program.)
-/
import Derived.Test.YtndppafplgilbaaL39
set_option linter.unusedVariables false
set_option linter.unusedSimpArgs false
set_option linter.unusedSectionVars false
set_option maxRecDepth 100000
namespace Go.Proofs.Ytndppafplgilbaa
open Go Go.Conc Go.RowKit
open Go.ConcN (sumTo upd sumTo_upd upd_ne upd_same)
section
variable {P:Program} {Post:Value→World→Prop} {s:Sit} {g:Goroutine} {w:World}
theorem LM.shun {Shun':Loc→Prop} (h1:∀ l,s.Shun l→Shun' l) (h2:∀ l,Shun' l→s.Shun l∨∃ x,l=.cell x∧w.heap.size≤x.block) (H:LM P Post { s with Shun:=Shun' } g w):LM P Post s g w:=fun ok =>
  Lh.shun h1 h2 (H ⟨ok.Kat,ok.Kst,ok.Kc,ok.stc⟩)
theorem LM.game {l:List Nat} {st st':Addr} {n:Nat} (hold:st.spot≠none∨w.cell? st=some (.int .u64 0)) (hs:ShunOf l (.cell st')) (hc:w.cell? st'=some (.int .u64 0)) (hf:w.frozen? st'=false) (H:LM P Post (sitI l st' n) g w):LM P Post (sitI l st n) g w:=fun ok =>
  Lh.game (s:=sitI l st n) (fun _ _=>rfl) (fun _=>rfl) hold hs hc hf (H (sitI_ok _ _ _))
theorem sitI_game (l:List Nat) (gb n0:Nat):sitG ⟨l,gb,n0,[]⟩=sitI (gb :: l) (c0 gb 1) n0:=by
  have hK:(⟨l,gb,n0,[]⟩:Gm).K=fun _=>True:=by
    funext w;exact propext ⟨fun _=>trivial,fun _ p hp=>by cases hp⟩
  have hS:(⟨l,gb,n0,[]⟩:Gm).S=fun _ _=>False:=by
    funext x l;exact propext ⟨fun ⟨_,p,hp,_⟩=>by simp at hp,fun h=>h.elim⟩
  have hR:(⟨l,gb,n0,[]⟩:Gm).R0=fun _=>.leave:=by
    funext x;unfold Gm.R0;split <;> simp
  have hA:(⟨l,gb,n0,[]⟩:Gm).A0=fun _=>false:=by
    funext x;simp [Gm.A0]
  unfold sitG sitI
  rw [hK,hS,hR,hA];rfl
end
section
variable {P:Program} {Gh:Type} {sit:Gh→Sit} {h:Nat} {L:Gh→Goroutine→World→Prop} (O:OwnL P sit h L)
variable {f:FuncId} {kd:CallKind} {s:Gh} {a:Act} {w:World} {k:List Item} {cs:List Frame}
include O
theorem l_fresh {H:Nat→Prop} (hst:(sit s).st.spot=none→H (sit s).st.block) (hK:∀ w w',(∀ k,H k→w'.heap[k]?=w.heap[k]?)→(sit s).K w→(sit s).K w') (hkd:kd≠.early) (ok:HidOk H w) {ops:Array Oper} {i:Nat} {rest:List Nat} {o:Oper} (ho:ops[i]?=some o) (hw:Region.wanted o (yielded ops a.tmps)=true) (x:Nat→Value) {c:Array Value} {t:TypeId}
    (hr:∀ w,(execOp a.eval o).run P w=.ok (.value (x w.heap.size)) (w.alloc (.cells c t))) (he:∀ w,(execOp a.eval o).events P w #[]=#[])
    (hq:∀ w',w'.heap[w.heap.size]?=some (.cells c t (0,0))→Grow (sit s).st H (fun _=>False) w w'→w.heap.size < w'.heap.size→L s (G ((bk f kd).at (a.put o.dst (x w.heap.size)) (.inRegion ops rest :: k)) cs) w'):L s (G ((bk f kd).at a (.inRegion ops (i :: rest) :: k)) cs) w:=by
  refine l_op O hkd ho hw fun hsok w₁ r=>?_
  have hl:listed P f a o w₁=#[]:=by unfold listed;rw [he,seen_none]
  have hin:∀ (u:World) x,x < u.heap.size→(u.alloc (.cells c t)).heap[x]?=u.heap[x]?:=fun u x hx=>by
    show (u.heap.push _)[x]?=_
    rw [Array.getElem?_push_lt hx,Array.getElem?_eq_getElem hx]
  have hsz:(w₁.alloc (.cells c t)).heap.size=w₁.heap.size + 1:=by show (w₁.heap.push _).size=_;simp
  have lt:∀ (u:World) (x:Nat) (o:Obj),u.heap[x]?=some o→x < u.heap.size:=fun u x o h=>(Array.getElem?_eq_some_iff.1 h).1
  have ok₁:=(RW.RH hst r).hid ok
  have hH:∀ x,H x→(w₁.alloc (.cells c t)).heap[x]?=w₁.heap[x]?:=fun x hx=>by
    obtain ⟨c,e,h1,_⟩:=ok₁ x hx
    exact hin w₁ x (lt _ _ _ h1)
  refine ⟨_,_,hr w₁,?_,fun d=>by rw [hl];rfl,?_⟩
  · rw [hl]
    refine ⟨fun hk=>hK _ _ hH hk,fun x c hc ⟨cap,n,hn⟩=>hin w₁ c (lt _ _ _ hn),fun hs=>?_,fun e he=>by simp at he,by rw [hsz];omega,fun e he=>by simp at he,rfl,rfl⟩
    have:=hH _ (hst hs)
    unfold World.cell? World.frozen?
    rw [this];exact ⟨rfl,rfl⟩
  · rw [r.size]
    refine hq _ ?_ ⟨⟨w₁,r,hH⟩,fun x hx=>?_,fun x hx hxH _=>?_,?_⟩ ?_
    · show (w₁.heap.push _)[w.heap.size]?=_
      rw [← r.size];simp
    · obtain ⟨c,e,h1,h2⟩:=ok₁ x hx
      exact ⟨c,e,(hH x hx).trans h1,h2⟩
    · rw [hin w₁ x (by rw [r.size];exact hx)]
      rcases r with ⟨d,rfl⟩ | ⟨n,n₁,d,h1,h2,rfl⟩
      · rfl
      · have hs:(sit s).st.spot=none:=by obtain ⟨_,_,_,_,h3,_⟩:=cell_some h1;exact h3
        exact setCell_ne w _ _ (fun e=>hxH (e ▸ hst hs))
    · rw [hsz,r.size];omega
    · rw [hsz,r.size];omega
end
section
variable {C:Cli} {Post:Value→World→Prop} {Γ:C.G} {keep:Nat→Prop} {w:World} {l:List Nat} {st:Addr} {n0 N:Nat} {bf:FuncId} {bfn:Func} {bcap:Array Value}
structure Pre (C:Cli) (Γ:C.G) (keep:Nat→Prop) (l:List Nat) (st:Addr) (n0:Nat) (w:World):Prop where
  M:C.M Γ w
  hid:HidOk (fun k=>k∈l) w
  lfoot:∀ x,x∈l→¬ C.foot Γ x
  kpfoot:∀ x,keep x→¬ C.foot Γ x∧x ∉ l∧x < w.heap.size
  stl:st.spot=none→st.block∈l
  old:st.spot≠none∨w.cell? st=some (.int .u64 0)
  pos:0 < n0
set_option maxRecDepth 100000 in
set_option maxHeartbeats 8000000 in
theorem begin_calls (X:Pre C Γ keep l st n0 w) (hN:N < 199) (HF:BodyF bf bfn) (HB:∀ gb i k Γ',i < N→C.Upto Γ i Γ'→BodyOk C n0 gb i k Post (C.own i Γ') bf bcap) :
    CallsL Try.prog (LM Try.prog Post) (fun _=>True) 53 #[.int .i64 N,.func (.func bf) #[] bcap] (sitI l st n0) w (fun r s' w'=>∃ (gm:Gm) (wk:Nat→Prop) (Γ':C.G),C.Upto Γ N Γ'∧r=.inl (.pointer (some (c0 gm.gb 0)))∧s'=sitG gm∧gm.old=l∧gm.n0=n0∧gm.ws.length=N∧MainB C Post gm Γ' (fun x=>keep x∨wk x) (fun _=>False) w'∧GSt C gm Γ' (fun x=>keep x∨wk x) [] w'∧(∀ x,keep x→w'.heap[x]?=w.heap[x]?)∧w.heap.size≤w'.heap.size∧w.heap.size≤gm.gb):=by
  intro c cs _ hkd hcm h1 _
  have O:=ownM Try.prog Post
  have T:=O.toCtl
  have hh:=hidesI (n:=n0) X.stl
  have hlt:∀ {u:World},HidOk (fun k=>k∈l) u→∀ x,x∈l→x < u.heap.size:=fun h x hx=>by
    obtain ⟨_,_,a,_⟩:=h x hx
    exact (Array.getElem?_eq_some_iff.1 a).1
  rw [enter_bk Try.func53 rfl]
  walk_nrmf Try.f53
  refine laW ?_
  refine l_new O hh (by simp) X.hid rfl (by rfl) (by kernel_rfl) (fun n=>.pointer (some (c0 n 0))) (c:=#[.func (.func bf) #[] bcap]) (t:=58) (fun v=>by go_simp) (fun w1 hn1 G1 hl1=>?_)
  walk_nrm
  refine laW ?_
  have M1:C.M Γ w1:=C.stable _ _ _ X.M fun x hx=>G1.low x (C.low _ _ X.M x hx) (fun h=>X.lfoot x h hx) id
  have c01:st.spot≠none∨w1.cell? st=some (.int .u64 0):=by
    rcases X.old with h | h
    · exact .inl h
    · have hs:st.spot=none:=by obtain ⟨_,_,_,_,h3,_⟩:=cell_some h;exact h3
      obtain ⟨wr,r,hr⟩:=G1.hid
      have e1:wr.cell? st=some (.int .u64 0):=by
        rcases r with ⟨d,rfl⟩ | ⟨n,n₁,d,h2,h3,rfl⟩
        · exact h
        · have h2:w.cell? st=some (.int .u64 (n * 4294967296:Nat)):=h2
          rw [h] at h2
          injection h2 with h2
          injection h2 with _ h2
          have h4:n₁=0:=by omega
          subst h4
          exact cell_set h
      refine .inr ?_
      unfold World.cell? at e1 ⊢
      rw [hr _ (X.stl hs)];exact e1
  have hlg:∀ x,x∈l→x≠w1.heap.size:=fun x hx e=>by have:=hlt G1.ok x hx;omega
  refine LM.shun (s:=sitI l st n0) (Shun':=ShunOf (w1.heap.size :: l)) (fun x ⟨k,hk,h⟩=>⟨k,List.mem_cons_of_mem _ hk,h⟩) (fun x ⟨k,hk,h⟩=>?_) ?_
  · rcases List.mem_cons.1 hk with rfl | hk
    · rcases h with rfl | rfl
      · exact .inr ⟨_,rfl,Nat.le_refl _⟩
      · exact .inr ⟨_,rfl,Nat.le_refl _⟩
    · exact .inl ⟨k,hk,h⟩
  show LM Try.prog Post (sitI (w1.heap.size :: l) st n0) _ _
  refine l_fresh O (s:=sitI (w1.heap.size :: l) st n0) (H:=fun k=>k∈l) X.stl (fun _ _ _ h=>h) (by simp) G1.ok rfl (by rfl) (fun n=>.pointer (some (c0 n 0))) (c:=#[.slice none 0 0,.int .u64 0,.int .u32 0,.slice none 0 0]) (t:=gameT) (fun v=>by go_simp) (fun v=>by simp [go_sem]) (fun w2 hn2 G2 hl2=>?_)
  walk_nrm
  have hq0:=hn1
  generalize hgb:w1.heap.size=gb at hlg hn2 hl2 ⊢
  have hcc:w2.cell? (c0 gb 1)=some (.int .u64 0):=cell_of (a:=c0 gb 1) hn2 rfl
  have hff:w2.frozen? (c0 gb 1)=false:=by unfold World.frozen?;rw [show (c0 gb 1).block=gb from rfl,hn2];simp
  have c02:st.spot≠none∨w2.cell? st=some (.int .u64 0):=by
    rcases c01 with h | h
    · exact .inl h
    · have hs:st.spot=none:=by obtain ⟨_,_,_,_,h3,_⟩:=cell_some h;exact h3
      obtain ⟨wr,r,hr⟩:=G2.hid
      have e1:wr.cell? st=some (.int .u64 0):=by
        rcases r with ⟨d,rfl⟩ | ⟨n,n₁,d,h2,h3,rfl⟩
        · exact h
        · have h2:w1.cell? st=some (.int .u64 (n * 4294967296:Nat)):=h2
          rw [h] at h2
          injection h2 with h2
          injection h2 with _ h2
          have h4:n₁=0:=by omega
          subst h4
          exact cell_set h
      refine .inr ?_
      unfold World.cell? at e1 ⊢
      rw [hr _ (X.stl hs)];exact e1
  refine LM.game c02 ⟨gb,List.mem_cons_self ..,.inl rfl⟩ hcc hff ?_
  rw [← sitI_game]
  have M2:C.M Γ w2:=C.stable _ _ _ M1 fun x hx=>G2.low x (C.low _ _ M1 x hx) (fun h=>X.lfoot x h hx) id
  have low:∀ x,x < w.heap.size→x ∉ l→w2.heap[x]?=w.heap[x]?:=fun x h2 h3=>(G2.low x (by omega) h3 id).trans (G1.low x h2 h3 id)
  have hq2:w2.heap[w.heap.size]?=some (.cells #[.func (.func bf) #[] bcap] 58 (0,0)):=(G2.low w.heap.size (by omega) (fun h=>by have:=hlt X.hid _ h;omega) id).trans hn1
  have X0:BegJ C Post Γ keep w2 l gb n0 w.heap.size bf bcap 58 0 Γ [] (.slice none 0 0) w2:=by
    refine ⟨rfl,⟨⟨fun p hp=>(by cases hp),fun p hp=>(by cases hp),fun i j p q hi=>(by simp at hi),fun k hk=>⟨hlg k hk,fun p hp=>(by cases hp)⟩,X.pos,by simp⟩,fun p hp=>(by cases hp),M2,fun x hx=>?_,fun x hx=>?_,fun x ⟨p,hp,_⟩=>(by cases hp),fun x ⟨p,hp,_⟩=>(by cases hp),fun x hx=>?_,fun i p hp=>(by simp at hp)⟩,rfl,⟨0,by omega,hn2⟩,⟨0,Nat.le_refl _,hcc⟩,⟨rfl,.inl ⟨rfl,rfl⟩⟩,fun g hg=>(by cases hg),hq2,fun _ _=>rfl,Nat.le_refl _⟩
    · rcases hx with rfl | hx | ⟨p,hp,_⟩
      · exact ⟨_,_,hn2,by simp⟩
      · exact G2.ok x hx
      · cases hp
    · rcases hx with hx | hx | ⟨p,hp,_⟩
      · intro hf
        have:=C.low _ _ M1 _ hf
        have e:x=gb:=hx
        omega
      · exact X.lfoot x hx
      · cases hp
    · rcases hx with hx | rfl
      · obtain ⟨a1,a2,a3⟩:=X.kpfoot x hx
        refine ⟨a1,fun h=>?_,fun ⟨p,hp,_⟩=>(by cases hp),by omega⟩
        rcases h with h | h | ⟨p,hp,_⟩
        · have e:x=gb:=h
          omega
        · exact a2 h
        · cases hp
      · refine ⟨fun hf=>by have:=C.low _ _ X.M _ hf;omega,fun h=>?_,fun ⟨p,hp,_⟩=>(by cases hp),by omega⟩
        rcases h with h | h | ⟨p,hp,_⟩
        · have e:w.heap.size=gb:=h
          omega
        · have:=hlt X.hid _ h;omega
        · cases hp
  refine laW ?_
  refine l_block T ?_
  refine l_loop T ?_
  have key:=beg_rounds (c:=c) (cs:=cs) (N:=N) hN HF (HB gb) (fun Γ' ws rv w3 Y i=>?_) N 0 Γ [] _ w2 (by omega) X0
  · simp only [begLoop,begRest,seqL,seqR,blkOf,loopOf,Option.getD_some,Try.f53] at key
    exact key _ _ _ _ _ _ _ _ _ _ _ _ _ _ _ _ _ _ _ _ _ _ _ _ _ _ _ _ _ _ _ _ _ _ _ _ _ _ _ _ _ _ _
  · intro y0 y1 y2 y4 y6 y7 y8 y9 y12 y13 y14 y15 y16 y17 y18 y19 y20 y21 y22 y23 y24 y25 y26 y27 y28 y29 y30 y31 y32 y33 y34 y35 y36 y37 y38 y39 y40 y41 y42 y43 y44 y45 y46
    simp only [begRest,seqR,Option.getD_some,Try.f53]
    refine laW ?_
    refine l_ret T ?_
    refine l_leave T Try.func53 rfl (resultsC_tmp rfl _) (h1 _ _ _ ⟨⟨l,gb,n0,ws⟩,fun x=>rv.ownBlock=some x,Γ',Y.up,rfl,rfl,rfl,rfl,Y.hlen,?_,?_,fun x hx=>?_,?_,?_⟩)
    · exact Y.MW.less fun x hx=>hx.elim (fun h=>.inl (.inl h)) fun h=>.inr ⟨(Y.rvO x h).1.foot,(Y.rvO x h).1.H,(Y.rvO x h).1.chan,ownsRow_lt Y.row x h⟩
    · exact ⟨⟨rv,.slice none 0 0,Y.hg,by rw [show (⟨l,gb,n0,ws⟩:Gm).ws.length=N from Y.hlen];exact Y.row,fun g hg=>.inr hg,⟨rfl,.inl ⟨rfl,rfl⟩⟩,fun g hg=>by cases hg⟩,by simp⟩
    · exact (Y.kept x hx).trans (low x (X.kpfoot x hx).2.2 (X.kpfoot x hx).2.1)
    · have:=Y.size;omega
    · show w.heap.size≤gb
      omega
end
end Go.Proofs.Ytndppafplgilbaa
