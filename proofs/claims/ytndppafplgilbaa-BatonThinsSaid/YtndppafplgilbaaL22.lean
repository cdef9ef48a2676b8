/-
  larchlaw04.BatonThins returns true for every input. No condition. (Part 22 of 49; joined by program.)
-/
import Derived.Test.YtndppafplgilbaaL01
import Derived.ProofKit
import Derived.OpenShut
import Derived.ShutString
import Derived.SizedLaws
import Derived.Deep.Slices
import Derived.Deep.Fields
set_option linter.unusedVariables false
set_option linter.unusedSimpArgs false
set_option linter.unusedSectionVars false
set_option maxRecDepth 100000
namespace Go.Proofs.Ytndppafplgilbaa
open Go.ChangeShapes Go.WideShapes Go.ChangeAt Go.RowKit Go.Deep
section
variable {H:Type} {enc:TypeId × Value→H} {P:Program}
theorem trodAll_below (hl:laidOutB P=true) {W W':World} (hb:Below W.heap.size W W'):∀ {ts:List TypeId} {vs:List Value} {ds:List (DataW H)} {ps:List MemPlace},
    (∀ t∈ts,P.readableRec t=true∧t < P.types.size)→DataW.TrodAll enc P W 0 (fun _=>true) true ts vs ds ps→(∀ x∈ps,x.block < W.heap.size)→DataW.TrodAll enc P W' 0 (fun b=>decide (b < W.heap.size)) true ts vs ds ps
  | [],[],[],_,_,h,_=>h
  | t :: ts,v :: vs,d :: ds,ps,ht,⟨p,q,h1,h2,e⟩,hlt=>by
    subst e
    exact ⟨p,q,Below.trod hl (ht t (by simp)).1 (ht t (by simp)).2 h1 hb (fun x hx=>hlt x (List.mem_append.2 (.inl hx))),
      trodAll_below hl hb (fun t' h'=>ht t' (List.mem_cons_of_mem _ h')) h2 (fun x hx=>hlt x (List.mem_append.2 (.inr hx))),rfl⟩
  | [],_ :: _,_,_,_,h,_=>h.elim
  | [],[],_ :: _,_,_,h,_=>h.elim
  | _ :: _,[],_,_,_,h,_=>h.elim
  | _ :: _,_ :: _,[],_,_,h,_=>h.elim
theorem law_post {f:Func} {s:ChangeSpec} {W W':World} {args:Array Value} {ds gs:List (DataW H)} {before:List MemPlace} {tb:TypeId}
    (hW:DataW.Whole enc P f.params.toList s.vars false W args.toList ds gs before) (hv:s.vars=[]) (hs:s.fn H (ds ++ gs)={ results:=[.lit (.bool true)],args:=ds }) (hrt:f.resultTypes=#[tb]) (htb:P.underlying tb=some .bool)
    (hl:laidOutB P=true) (hts:∀ t∈f.params.toList,P.readableRec t=true∧t < P.types.size) (hb:Below W.heap.size W W'):s.post enc P f false true false false W args (.bool true) W':=by
  have hlt:∀ p∈before,p.block < W.heap.size:=fun p hp=>hW.lt p hp
  obtain ⟨p,q,hA,hV,e,hfz,hnd⟩:=hW
  have hq:q=[]:=by
    rw [hv] at hV
    cases gs with
    | nil=>exact hV
    | cons _ _=>exact hV.elim
  subst hq
  rw [List.append_nil] at e
  subst e
  have hres:DataW.TrodAll enc P W' W.heap.size (fun _=>false) false f.resultTypes.toList ((Value.bool true).resultList f.resultTypes.size) [.lit (.bool true)] []:=by
    rw [hrt]
    exact trodAll_mk1 (shut_bool htb true)
  refine ⟨ds,gs,before,[],before,[],⟨before,[],hA,hV,by simp,hfz,hnd⟩,?_,?_,?_,hb.frame _,fun h=>by cases h⟩
  · rw [hs];exact hres
  · rw [hs];exact trodAll_below hl hb hts hA hlt
  · rw [hs]
    rw [hv]
    exact (rfl:([]:List MemPlace)=[])
theorem weights_slice {t e:TypeId} {elems spare:List (DataW H)} (ht:P.underlying t=some (.slice e)) (h:(DataW.weights P t (.slice elems spare)).all (·≤reachBytes)=true):(elems.length + spare.length) * P.bytesOf e≤reachBytes:=by
  unfold DataW.weights at h
  simp only [ht,List.all_cons,Bool.and_eq_true,decide_eq_true_eq] at h
  exact h.1
theorem read4 {e ti:TypeId} {f0 f1 f2 f3:Field} {w:World} {n:Nat} {cs':List Value} {x:DataW H × List MemPlace} (he:P.underlying e=some (.struct #[f0,f1,f2,f3])) (hi:P.underlying ti=some (.int .i64))
    (hone:oneCellFields P #[f0,f1,f2,f3]=true) (t0:f0.type=ti) (t1:f1.type=ti) (t2:f2.type=ti) (t3:f3.type=ti) (hlen:cs'.length=4)
    (h:DataW.trod enc P w 0 (fun _=>true) true n e cs'=some x) :
    ∃ k0 k1 k2 k3:Int,cs'=[.int .i64 k0,.int .i64 k1,.int .i64 k2,.int .i64 k3]∧(Lit.int .i64 k0).wf=true∧(Lit.int .i64 k1).wf=true∧(Lit.int .i64 k2).wf=true∧(Lit.int .i64 k3).wf=true:=by
  obtain ⟨ys,n',_,hy,_,hyl,hf⟩:=DataW.trod_struct he h
  match cs',hlen with
  | [c0,c1,c2,c3],_ =>
    match ys,hyl with
    | [y0,y1,y2,y3],_ =>
      obtain ⟨o0,k0⟩:=hone_of hone 0 f0 rfl
      obtain ⟨o1,k1⟩:=hone_of hone 1 f1 rfl
      obtain ⟨o2,k2⟩:=hone_of hone 2 f2 rfl
      obtain ⟨o3,k3⟩:=hone_of hone 3 f3 rfl
      have g0:=hf 0 f0 rfl
      have g1:=hf 1 f1 rfl
      have g2:=hf 2 f2 rfl
      have g3:=hf 3 f3 rfl
      rw [o0,k0,t0] at g0
      rw [o1,k1,t1] at g1
      rw [o2,k2,t2] at g2
      rw [o3,k3,t3] at g3
      obtain ⟨a0,e0,_,w0⟩:=DataW.trod_int hi g0
      obtain ⟨a1,e1,_,w1⟩:=DataW.trod_int hi g1
      obtain ⟨a2,e2,_,w2⟩:=DataW.trod_int hi g2
      obtain ⟨a3,e3,_,w3⟩:=DataW.trod_int hi g3
      simp at e0 e1 e2 e3
      exact ⟨a0,a1,a2,a3,by rw [e0,e1,e2,e3],w0,w1,w2,w3⟩
theorem choose4 {n:Nat} {p:Nat→A4→Prop} (h:∀ i,i < n→∃ x,p i x):∃ l:List A4,l.length=n∧∀ i (hi:i < l.length),p i l[i]:=by
  induction n with
  | zero=>exact ⟨[],rfl,fun i hi=>absurd hi (by simp)⟩
  | succ n ih =>
    obtain ⟨l,hl,hp⟩:=ih (fun i hi=>h i (by omega))
    obtain ⟨x,hx⟩:=h n (by omega)
    refine ⟨l ++ [x],by simp [hl],fun i hi=>?_⟩
    by_cases e:i < l.length
    · rw [List.getElem_append_left e];exact hp i e
    · have:i=n:=by simp at hi;omega
      subst this
      rw [List.getElem_append_right (by omega)]
      simpa [hl] using hx
end
end Go.Proofs.Ytndppafplgilbaa
