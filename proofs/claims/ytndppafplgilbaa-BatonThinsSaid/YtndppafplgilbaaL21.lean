/-
  larchlaw04.BatonThins returns true for every input. No condition. (Part 21 of 49; joined by program.)
-/
import Derived.Test.YtndppafplgilbaaL20
import Derived.Conc.SmallLaws
set_option linter.unusedVariables false
set_option linter.unusedSimpArgs false
set_option linter.unusedSectionVars false
set_option maxRecDepth 100000
namespace Go.Proofs.Ytndppafplgilbaa
open Go Go.Conc
open Go.ConcN (sumTo upd sumTo_upd upd_ne upd_same)
theorem list_bound (K:Nat):∀ (m:Nat) (p:List Nat→Nat→Prop),(∀ l n n',p l n→n≤n'→p l n')→(∀ l,l.length≤m→(∀ x∈l,x < K)→∃ n,p l n)→∃ N,∀ l,l.length≤m→(∀ x∈l,x < K)→p l N
  | 0,p,hm,H=>by
    obtain ⟨n,hn⟩:=H [] (Nat.le_refl _) (fun x hx=>by cases hx)
    refine ⟨n,fun l hl _=>?_⟩
    have:l=[]:=List.eq_nil_of_length_eq_zero (by omega)
    subst this;exact hn
  | m + 1,p,hm,H=>by
    obtain ⟨n0,h0⟩:=H [] (Nat.zero_le _) (fun x hx=>by cases hx)
    obtain ⟨N1,h1⟩:=bounded (fun x n=>∀ l,l.length≤m→(∀ y∈l,y < K)→p (x :: l) n) (fun x n n' h hl l a b=>hm _ _ _ (h l a b) hl) K fun x hx =>
      list_bound K m (fun l n=>p (x :: l) n) (fun l n n' h hl=>hm _ _ _ h hl) fun l hl hk=>H (x :: l) (by simpa using hl) fun y hy=>by
        rcases List.mem_cons.1 hy with rfl | hy
        · exact hx
        · exact hk y hy
    refine ⟨max n0 N1,fun l hl hk=>?_⟩
    cases l with
    | nil=>exact hm _ _ _ h0 (Nat.le_max_left ..)
    | cons x l=>exact hm _ _ _ (h1 x (hk x (List.mem_cons_self ..)) l (by simpa using hl) fun y hy=>hk y (List.mem_cons_of_mem _ hy)) (Nat.le_max_right ..)
theorem lin_ok (ops:Array Oper):∀ (fuel t:Nat) (listed:Array Bool),(Region.linearise.go .any ops fuel t listed []).length≤fuel∧∀ x∈Region.linearise.go .any ops fuel t listed [],x < ops.size:=by
  intro fuel
  induction fuel with
  | zero=>intro t listed;simp [Region.linearise.go]
  | succ fuel ih =>
    intro t listed
    simp only [Region.linearise.go]
    change (match (Region.ready .any ops listed)[t % (Region.ready .any ops listed).length]? with
      | some i=>Region.linearise.go .any ops fuel (t / (Region.ready .any ops listed).length) (listed.setIfInBounds i true) [i]
      | none=>[].reverse).length≤fuel + 1∧∀ x∈(match (Region.ready .any ops listed)[t % (Region.ready .any ops listed).length]? with
      | some i=>Region.linearise.go .any ops fuel (t / (Region.ready .any ops listed).length) (listed.setIfInBounds i true) [i]
      | none=>[].reverse),x < ops.size
    cases hi:(Region.ready .any ops listed)[t % (Region.ready .any ops listed).length]? with
    | none=>simp
    | some i =>
      simp only []
      rw [linearise_go_acc,List.reverse_singleton,List.singleton_append]
      obtain ⟨h1,h2⟩:=ih (t / (Region.ready .any ops listed).length) (listed.setIfInBounds i true)
      refine ⟨by simp;exact h1,fun x hx=>?_⟩
      rcases List.mem_cons.1 hx with rfl | hx
      · exact List.mem_range.1 (List.mem_filter.1 (List.mem_of_getElem? hi)).1
      · exact h2 x hx
section
variable {P:Program} {main:Bool} {K:World→Prop} {S:Loc→Prop} {c:Nat} {z:Value} {ok:Bool} {home:Goroutine→Prop}
theorem waySeat_draw (hm:P.follows .mixedOrders=true) {f:FuncId} {kd:CallKind} {a:Act} {w:World} {k:List Item} {cs:List Frame} {id:Nat} {ops:Array Oper}
    (H:∀ t,WaySeat P main K S c z ok home () (G ((bk f kd).at a (.inRegion ops (Region.linearise.go .any ops ops.size t (Array.replicate ops.size false) []) :: k)) cs) w):WaySeat P main K S c z ok home () (G ((bk f kd).at a (.code (.region id ops true) :: k)) cs) w:=by
  obtain ⟨N,hN⟩:=list_bound ops.size ops.size (fun l n=>(∃ t,l=Region.linearise.go .any ops ops.size t (Array.replicate ops.size false) [])→Goes P main (RKI K) (DI S) (fun g _=>∃ g₂,AtS P main K S c z ok home g g₂) n (G ((bk f kd).at a (.inRegion ops l :: k)) cs) w)
    (fun l n n' h hl ht=>Goes.mono (h ht) hl) (fun l _ _=>by
      by_cases ht:∃ t,l=Region.linearise.go .any ops ops.size t (Array.replicate ops.size false) []
      · obtain ⟨t,rfl⟩:=ht
        obtain ⟨n,h⟩:=H t
        exact ⟨n,fun _=>h⟩
      · exact ⟨0,fun h=>absurd h ht⟩)
  refine ⟨N + 1,Goes.step rfl fun w₁ h₁=>?_⟩
  obtain ⟨t,d,hr⟩:∃ t d,(choose (.order f id)).run P w₁=.ok t (w₁.at d):=by
    unfold choose Sem.run
    split
    · exact ⟨_,w₁.drawn,rfl⟩
    · exact ⟨_,w₁.drawn + 1,rfl⟩
  have hst:stepG P main (G ((bk f kd).at a (.code (.region id ops true) :: k)) cs) w₁=.go (G ((bk f kd).at a (.inRegion ops (Region.schedule (P.follows .mixedOrders) ops t) :: k)) cs) (w₁.at d) #[]:=by
    simp [G,stepG,stepG.exec,bk,base,Frame.at,hr]
  rw [hst,goes_go]
  refine ⟨⟨⟨d,rfl⟩,fun e he=>by simp at he⟩,goes_anyK (w:=w) _ ?_⟩
  simp only [Region.schedule,hm,Bool.true_or,if_true]
  obtain ⟨h1,h2⟩:=lin_ok ops ops.size t (Array.replicate ops.size false)
  exact hN _ h1 h2 ⟨t,rfl⟩
end
section
variable {P:Program} {Gh:Type} {sit:Gh→Sit} {h:Nat} {L:Gh→Goroutine→World→Prop} (O:OwnL P sit h L)
variable {f:FuncId} {kd:CallKind} {s:Gh} {a:Act} {w:World} {k:List Item} {cs:List Frame}
include O
theorem l_chan {H:Nat→Prop} (hh:Hides (sit s) h H) (hkd:kd≠.early) (ok:HidOk H w) {ops:Array Oper} {i:Nat} {rest:List Nat} {o:Oper} (ho:ops[i]?=some o) (hw:Region.wanted o (yielded ops a.tmps)=true)
    (hr:∀ w,(execOp a.eval o).run P w=.ok (.value (.chan (some w.heap.size))) (w.alloc (.chan 0 #[] false 0 0 false))) (he:∀ w,(execOp a.eval o).events P w #[]=#[])
    (hq:∀ w',w'.heap[w.heap.size]?=some (.chan 0 #[] false 0 0 false)→Grow (sit s).st H (fun _=>False) w w'→w.heap.size < w'.heap.size→L s (G ((bk f kd).at (a.put o.dst (.chan (some w.heap.size))) (.inRegion ops rest :: k)) cs) w'):L s (G ((bk f kd).at a (.inRegion ops (i :: rest) :: k)) cs) w:=by
  refine l_op O hkd ho hw fun hsok w₁ r=>?_
  have hl:listed P f a o w₁=#[]:=by unfold listed;rw [he,seen_none]
  have hin:∀ (u:World) x,x < u.heap.size→(u.alloc (.chan 0 #[] false 0 0 false)).heap[x]?=u.heap[x]?:=fun u x hx=>by
    show (u.heap.push _)[x]?=_
    rw [Array.getElem?_push_lt hx,Array.getElem?_eq_getElem hx]
  have hsz:(w₁.alloc (.chan 0 #[] false 0 0 false)).heap.size=w₁.heap.size + 1:=by show (w₁.heap.push _).size=_;simp
  have lt:∀ (u:World) (x:Nat) (o:Obj),u.heap[x]?=some o→x < u.heap.size:=fun u x o h=>(Array.getElem?_eq_some_iff.1 h).1
  have ok₁:=(RW.RH hh.st r).hid ok
  have hH:∀ x,H x→(w₁.alloc (.chan 0 #[] false 0 0 false)).heap[x]?=w₁.heap[x]?:=fun x hx=>by
    obtain ⟨c,e,h1,_⟩:=ok₁ x hx
    exact hin w₁ x (lt _ _ _ h1)
  refine ⟨_,_,hr w₁,?_,fun d=>by rw [hl];rfl,?_⟩
  · rw [hl]
    refine ⟨fun hk=>hh.K _ _ hH hk,fun x c hc ⟨cap,n,hn⟩=>hin w₁ c (lt _ _ _ hn),fun hs=>?_,fun e he=>by simp at he,by rw [hsz];omega,fun e he=>by simp at he,rfl,rfl⟩
    have:=hH _ (hh.st hs)
    unfold World.cell? World.frozen?
    rw [this];exact ⟨rfl,rfl⟩
  · rw [r.size]
    refine hq _ ?_ ⟨⟨w₁,r,hH⟩,fun x hx=>?_,fun x hx hxH _=>?_,?_⟩ ?_
    · show (w₁.heap.push _)[w.heap.size]?=_
      rw [← r.size];simp
    · obtain ⟨c,e,h1,h2⟩:=ok₁ x hx
      exact ⟨c,e,(hH x hx).trans h1,h2⟩
    · rw [hin w₁ x (by rw [r.size];exact hx)]
      rcases r with ⟨d,rfl⟩ | ⟨n,n₁,d,h1,h2,rfl⟩
      · rfl
      · have hs:(sit s).st.spot=none:=by obtain ⟨_,_,_,_,h3,_⟩:=cell_some h1;exact h3
        exact setCell_ne w _ _ (fun e=>hxH (e ▸ hh.st hs))
    · rw [hsz,r.size];omega
    · rw [hsz,r.size];omega
end
end Go.Proofs.Ytndppafplgilbaa
