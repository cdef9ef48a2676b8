/-
  larchlaw04.BatonThins returns true for every input. No condition. (Part 14 of 49; joined by program.)
-/
import Derived.Test.YtndppafplgilbaaL13
import Derived.Orders
set_option linter.unusedVariables false
set_option linter.unusedSimpArgs false
set_option linter.unusedSectionVars false
set_option maxRecDepth 100000
namespace Go.Proofs.Ytndppafplgilbaa
open Go Go.Conc
open Go.ConcN (sumTo upd sumTo_upd upd_ne upd_same)
structure Wk where
  blk:Nat
  turn:Nat
  back:Nat
  var:Nat
inductive St where
  | sits (home:Goroutine→Prop) (fb:Nat)
  | done
  | gone
structure Gm where
  old:List Nat
  gb:Nat
  n0:Nat
  ws:List (Wk × St)
def Wk.nums (k:Wk):List Nat:=[k.blk,k.turn,k.back,k.var]
structure Gm.Wf (g:Gm):Prop where
  blk:∀ p∈g.ws,p.1.blk≠g.gb∧p.1.turn≠g.gb∧p.1.back≠g.gb∧p.1.var≠g.gb
  self:∀ p∈g.ws,p.1.blk≠p.1.turn∧p.1.blk≠p.1.back∧p.1.blk≠p.1.var∧p.1.turn≠p.1.back∧p.1.turn≠p.1.var∧p.1.back≠p.1.var
  other:∀ (i j:Nat) (p q:Wk × St),g.ws[i]?=some p→g.ws[j]?=some q→i≠j→∀ x,x∈p.1.nums→x ∉ q.1.nums
  old:∀ k∈g.old,k≠g.gb∧∀ p∈g.ws,k ∉ p.1.nums
  pos:0 < g.n0
  few:g.ws.length < 200
abbrev c0 (b o:Nat):Addr:=⟨b,o,none⟩
def zT:Value:=.agg #[]
def roleOf:Wk × St→Role
  | (k,.sits home _)=>.seat k.turn zT true home
  | (_,.done)=>.done
  | (_,.gone)=>.leave
def Gm.R0 (g:Gm) (x:Nat):Role:=if g.n0≤x then (match g.ws[x - g.n0]? with | some p=>roleOf p | none=>.leave) else .leave
def Gm.K (g:Gm) (w:World):Prop:=∀ p∈g.ws,w.cell? (c0 p.1.blk 0)=some (.chan (some p.1.turn))∧w.cell? (c0 p.1.blk 1)=some (.chan (some p.1.back))∧w.cell? (c0 p.1.var 0)=some (.pointer (some (c0 p.1.blk 0)))
def Gm.S (g:Gm) (x:Nat) (l:Loc):Prop:=g.n0≤x∧∃ p,g.ws[x - g.n0]?=some p∧l=.cell (c0 p.1.blk 0)
def ShunOf (l:List Nat) (x:Loc):Prop:=∃ k∈l,x=.cell (c0 k 1)∨x=.cell (c0 k 2)
def Gm.A0 (g:Gm) (x:Nat):Bool:=decide (g.n0≤x∧x < g.n0 + g.ws.length)
def sitG (g:Gm):Sit:={ K:=g.K,S:=g.S,Shun:=ShunOf (g.gb :: g.old),st:=c0 g.gb 1,R0:=g.R0,A0:=g.A0,n:=g.n0 + g.ws.length,d:=0 }
def S0 (k:Wk) (l:Loc):Prop:=l=.cell (c0 k.blk 1)∨l=.cell (c0 k.var 0)
def sitC (g:Gm) (home0:Goroutine→Prop) (k:Wk):Sit:={ sitG g with R0:=upd g.R0 0 (.seat k.back (.bool false) false home0),S:=fun x=>if x=0 then S0 k else g.S x }
def Gm.H (g:Gm) (k:Nat):Prop:=k=g.gb∨k∈g.old∨∃ p∈g.ws,k=p.1.blk∨k=p.1.var
section
variable {g:Gm}
theorem Gm.at {x:Nat} {p:Wk × St} (h:g.ws[x]?=some p):p∈g.ws:=List.mem_of_getElem? h
theorem Gm.Wf.chanK (W:g.Wf) {i:Nat} {p:Wk × St} (hi:g.ws[i]?=some p) {c:Nat} (hc:c=p.1.turn∨c=p.1.back) {q:Wk × St} (hq:q∈g.ws):c≠q.1.blk∧c≠q.1.var:=by
  obtain ⟨j,hj,e⟩:=List.getElem_of_mem hq
  have hj':g.ws[j]?=some q:=by rw [List.getElem?_eq_getElem hj,e]
  by_cases hij:i=j
  · subst hij
    rw [hi] at hj'
    obtain rfl:=Option.some.inj hj'
    obtain ⟨h1,h2,h3,h4,h5,h6⟩:=W.self p hq
    rcases hc with rfl | rfl
    · exact ⟨fun e=>h1 e.symm,h5⟩
    · exact ⟨fun e=>h2 e.symm,h6⟩
  · have hx:c∈p.1.nums:=by rcases hc with rfl | rfl <;> simp [Wk.nums]
    have:=W.other i j p q hi hj' hij c hx
    simp only [Wk.nums,List.mem_cons,List.not_mem_nil,or_false,not_or] at this
    exact ⟨this.1,this.2.2.2⟩
theorem Gm.R0_seat {x c:Nat} (h:(g.R0 x).has c):g.n0≤x∧∃ p,g.ws[x - g.n0]?=some p∧c=p.1.turn∧∃ home fb,p.2=.sits home fb:=by
  unfold Gm.R0 at h
  split at h
  · rename_i hx
    split at h
    · rename_i p hp
      obtain ⟨k,st⟩:=p
      cases st with
      | sits home fb=>exact ⟨hx,_,hp,h,home,fb,rfl⟩
      | done=>exact h.elim
      | gone=>exact h.elim
    · exact h.elim
  · exact h.elim
theorem Gm.R0_at {i:Nat} {p:Wk × St} (hi:g.ws[i]?=some p):g.R0 (g.n0 + i)=roleOf p:=by
  unfold Gm.R0
  rw [if_pos (by omega),show g.n0 + i - g.n0=i by omega,hi]
theorem Gm.R0_out {x:Nat} (h:x < g.n0∨g.n0 + g.ws.length≤x):g.R0 x=.leave:=by
  unfold Gm.R0
  split
  · rw [List.getElem?_eq_none (by omega)]
  · rfl
theorem cell_chan {w:World} {c:Nat} {a:Addr} (h:c≠a.block) (cap:Nat) (buf:Array Value) (cl:Bool) (p r:Nat) (tm:Bool):(w.setChan c cap buf cl p r tm).cell? a=w.cell? a:=by
  unfold World.cell?
  rw [heap_setChan_ne w cap buf cl p r tm h]
theorem Gm.K_set (W:g.Wf) {w:World} (a:Addr) (x:Value) (ha:a.block=g.gb) (h:g.K w):g.K (w.setCell a x):=fun p hp=>by
  obtain ⟨h1,_,_,h4⟩:=W.blk p hp
  rw [cell_set_ne (.inl (by rw [ha];exact fun e=>h1 e.symm)),cell_set_ne (.inl (by rw [ha];exact fun e=>h1 e.symm)),cell_set_ne (.inl (by rw [ha];exact fun e=>h4 e.symm))]
  exact h p hp
theorem Gm.K_chan (W:g.Wf) {i:Nat} {p:Wk × St} (hi:g.ws[i]?=some p) {c:Nat} (hc:c=p.1.turn∨c=p.1.back) {w:World} (cap:Nat) (buf:Array Value) (cl:Bool) (a b:Nat) (tm:Bool) (h:g.K w):g.K (w.setChan c cap buf cl a b tm):=fun q hq=>by
  obtain ⟨h1,h2⟩:=W.chanK hi hc hq
  rw [cell_chan h1,cell_chan h1,cell_chan h2]
  exact h q hq
theorem sitG_ok (W:g.Wf):(sitG g).Ok:=by
  refine ⟨fun w d h=>h,fun w x h=>Gm.K_set W _ x rfl h,fun w c cap buf cl a b tm ⟨x,hx⟩ h=>?_,fun x c hx=>?_⟩
  · obtain ⟨_,p,hp,rfl,_⟩:=Gm.R0_seat hx
    exact Gm.K_chan W hp (.inl rfl) _ _ _ _ _ _ h
  · obtain ⟨_,p,hp,rfl,_⟩:=Gm.R0_seat hx
    exact (W.blk p (Gm.at hp)).2.1
theorem sitC_has {home0:Goroutine→Prop} {k:Wk} {x c:Nat} (h:((sitC g home0 k).R0 x).has c):(x=0∧c=k.back)∨(x≠0∧(g.R0 x).has c):=by
  have h:(upd g.R0 0 (.seat k.back (.bool false) false home0) x).has c:=h
  by_cases e:x=0
  · subst e;rw [upd_same] at h;exact .inl ⟨rfl,h⟩
  · rw [upd_ne _ _ e] at h;exact .inr ⟨e,h⟩
theorem sitC_ok (W:g.Wf) {i:Nat} {k:Wk} {st:St} (hi:g.ws[i]?=some (k,st)) (home0:Goroutine→Prop):(sitC g home0 k).Ok:=by
  refine ⟨fun w d h=>h,fun w x h=>Gm.K_set W _ x rfl h,fun w c cap buf cl a b tm ⟨x,hx⟩ h=>?_,fun x c hx=>?_⟩
  · rcases sitC_has hx with ⟨_,rfl⟩ | ⟨_,hx⟩
    · exact Gm.K_chan W hi (.inr rfl) _ _ _ _ _ _ h
    · obtain ⟨_,p,hp,rfl,_⟩:=Gm.R0_seat hx
      exact Gm.K_chan W hp (.inl rfl) _ _ _ _ _ _ h
  · rcases sitC_has hx with ⟨_,rfl⟩ | ⟨_,hx⟩
    · exact (W.blk _ (Gm.at hi)).2.2.1
    · obtain ⟨_,p,hp,rfl,_⟩:=Gm.R0_seat hx
      exact (W.blk p (Gm.at hp)).2.1
theorem H_K {w w':World} (hk:∀ k,g.H k→w'.heap[k]?=w.heap[k]?) (h:g.K w):g.K w':=fun p hp=>by
  have e1:w'.heap[p.1.blk]?=w.heap[p.1.blk]?:=hk _ (.inr (.inr ⟨p,hp,.inl rfl⟩))
  have e2:w'.heap[p.1.var]?=w.heap[p.1.var]?:=hk _ (.inr (.inr ⟨p,hp,.inr rfl⟩))
  have:=h p hp
  unfold World.cell? at this ⊢
  simp only [c0] at this ⊢
  rw [e1,e2];exact this
theorem shun_H {a:Addr} (h:ShunOf (g.gb :: g.old) (.cell a)):g.H a.block:=by
  obtain ⟨k,hk,h⟩:=h
  have:a.block=k:=by rcases h with h | h <;> (cases h;rfl)
  rw [this]
  rcases List.mem_cons.1 hk with rfl | hk
  · exact .inl rfl
  · exact .inr (.inl hk)
theorem hidesG:Hides (sitG g) 0 g.H:=by
  refine ⟨fun _=>.inl rfl,fun w w' hk h=>H_K hk h,fun x a hx hs hS=>?_,fun x r hx hs hS=>?_,fun a h=>shun_H h,fun r ⟨k,_,h⟩=>by rcases h with h | h <;> cases h⟩
  · obtain ⟨_,p,hp,e⟩:=hS
    cases e
    exact .inr (.inr ⟨p,Gm.at hp,.inl rfl⟩)
  · obtain ⟨_,p,hp,e⟩:=hS
    cases e
theorem hidesC {i:Nat} {k:Wk} {st:St} (hi:g.ws[i]?=some (k,st)) {home0:Goroutine→Prop} (h:Nat):Hides (sitC g home0 k) h g.H:=by
  refine ⟨fun _=>.inl rfl,fun w w' hk h=>H_K hk h,fun x a hx hs hS=>?_,fun x r hx hs hS=>?_,fun a h=>shun_H h,fun r ⟨k,_,h⟩=>by rcases h with h | h <;> cases h⟩
  · have hS:(if x=0 then S0 k else g.S x) (.cell a):=hS
    by_cases e:x=0
    · rw [if_pos e] at hS
      rcases hS with h | h
      · cases h;exact .inr (.inr ⟨_,Gm.at hi,.inl rfl⟩)
      · cases h;exact .inr (.inr ⟨_,Gm.at hi,.inr rfl⟩)
    · rw [if_neg e] at hS
      obtain ⟨_,p,hp,e⟩:=hS
      cases e
      exact .inr (.inr ⟨p,Gm.at hp,.inl rfl⟩)
  · have hS:(if x=0 then S0 k else g.S x) (.obj r):=hS
    by_cases e:x=0
    · rw [if_pos e] at hS
      rcases hS with h | h <;> cases h
    · rw [if_neg e] at hS
      obtain ⟨_,p,hp,e⟩:=hS
      cases e
end
theorem PastR.still {Shun:Loc→Prop} {S S':Nat→Loc→Prop} {Mem Loose:Nat→Prop} {K:Nat→Prop} {t:Trace} (H:PastR Shun S Mem Loose K t) (h:∀ g,Mem g→S' g=S g):PastR Shun S' Mem Loose K t :=
  ⟨H.clean,fun i a ha hm=>(H.known i a ha hm).imp id fun x=>x.imp id fun ⟨h1,g,h2,h3,h4⟩=>⟨h1,g,h2,h3,by rw [h g (H.loose g h3)];exact h4⟩,H.shun,fun i a ha hw g hg hs=>H.wrote i a ha hw g hg (by rw [← h g hg];exact hs),fun g l hg hs=>H.apart g l hg (by rw [← h g hg];exact hs),H.loose,H.hears⟩
theorem Lh.self {P:Program} {Post:Value→World→Prop} {s:Sit} {h:Nat} {g:Goroutine} {w:World} {S':Nat→Loc→Prop} {R':Nat→Role} (hS:∀ x,x≠h→S' x=s.S x) (hR:∀ x,x≠h→R' x=s.R0 x) (hRh:R' h=.leave)
    (H:Lh P Post { s with S:=S',R0:=R' } h g w):Lh P Post s h g w:=by
  rintro m T ⟨gs,sl,q,Rl,A,w₁,rfl,rw₁,hn,ha,C,sm,hd,hA1,hA2,hRR⟩
  have eR:R'=upd s.R0 h .leave:=by
    funext x
    by_cases e:x=h
    · subst e;rw [hRh,upd_same]
    · rw [upd_ne _ _ e];exact hR x e
  have hlt:h < gs.size:=(Array.getElem?_eq_some_iff.1 ha).1
  have hMem:(fun g=>¬ g=h∧(upd Rl h .leave g).sits)=fun g=>¬ g=h∧(Rl g).sits:=by
    funext x
    by_cases e:x=h
    · simp [e]
    · rw [upd_ne _ _ e]
  refine H _ _ ⟨gs,sl,q,upd Rl h .leave,A,w₁,rfl,rw₁,hn,ha,⟨fun x y hx hy=>?_,fun x c hD hc=>?_,fun _ _ h=>h.elim,fun _ h=>h.elim,fun x x' c h1 h2=>?_,C.above,fun x hx e=>?_,?_,C.shun,C.keep,C.cell,C.few,C.low,fun x y h1 h2=>?_,fun x hx hsx hAx=>?_⟩,?_,hd,fun x hx=>?_,hA2,fun x hx=>?_⟩
  · have hi:=C.idle x y hx hy
    rw [upd_ne _ _ hx]
    cases e:Rl x with
    | seat c z ok home =>
      rw [e] at hi
      show SitsS _ _ _ (S' x) _ _ _ _ _ _
      rw [hS x hx];exact hi
    | done=>rw [e] at hi;exact hi
    | leave=>rw [e] at hi;exact hi
  · by_cases e:x=h
    · subst e;rw [upd_same] at hc;exact hc.elim
    · rw [upd_ne _ _ e] at hc;exact C.chans x c hD hc
  · by_cases e:x=h
    · subst e;rw [upd_same] at h1;exact h1.elim
    · by_cases e':x'=h
      · subst e';rw [upd_same] at h2;exact h2.elim
      · rw [upd_ne _ _ e] at h1;rw [upd_ne _ _ e'] at h2;exact C.inj x x' c h1 h2
  · rw [upd_ne _ _ hx] at e;exact C.aliveD x hx e
  · show PastW s.Shun S' (fun g=>¬ g=h∧(upd Rl h .leave g).sits) (fun g=>¬ g=h∧(upd Rl h .leave g).sits) h T
    rw [hMem]
    exact C.past.still fun x hx=>hS x hx.1
  · by_cases e:x=h
    · subst e;rw [upd_same] at h1;exact h1.elim
    · rw [upd_ne _ _ e] at h1
      have h2:S' x (.cell y):=h2
      rw [hS x e] at h2;exact C.slow x y h1 h2
  · rw [upd_ne _ _ hsx];exact C.aliveC x hx hsx hAx
  · show Same R' (upd Rl h .leave)
    rw [eR];exact sm.upd h .leave
  · have hx:x=h∨(R' x).sits∨s.n≤x:=hx
    rcases hx with e | e | e
    · exact hA1 x (.inl e)
    · by_cases ex:x=h
      · exact hA1 x (.inl ex)
      · rw [hR x ex] at e;exact hA1 x (.inr (.inl e))
    · exact hA1 x (.inr (.inr e))
  · show upd Rl h .leave x=R' x
    by_cases ex:x=h
    · subst ex;rw [upd_same,hRh]
    · rw [upd_ne _ _ ex,hR x ex]
      refine hRR x ?_
      have hx:(R' x).sits∨s.n≤x:=hx
      rw [hR x ex] at hx;exact hx
theorem AtS.wider {P:Program} {main:Bool} {K:World→Prop} {S:Loc→Prop} {c:Nat} {z:Value} {ok:Bool} {home home':Goroutine→Prop} (hh:∀ g,home g→home' g) {g g₂:Goroutine} (h:AtS P main K S c z ok home g g₂):AtS P main K S c z ok home' g g₂:=by
  obtain ⟨h1,h2,h3,h4,h5,es,h6,h7⟩:=h
  exact ⟨h1,h2,h3,h4,hh _ h5,es,h6,h7⟩
theorem SitsS.wider {P:Program} {main:Bool} {K:World→Prop} {S:Loc→Prop} {c:Nat} {z:Value} {ok:Bool} {home home':Goroutine→Prop} (hh:∀ g,home g→home' g) {n:Nat} {g:Goroutine} (h:SitsS P main K S c z ok home n g):SitsS P main K S c z ok home' n g:=by
  rcases h with ⟨k,w,e,h⟩ | ⟨e,g₀,g₂,e2,h⟩
  · exact .inl ⟨k,w,e,Goes.less (fun _ _ r=>r) (fun g _ ⟨g₂,x⟩=>⟨g₂,x.wider hh⟩) h⟩
  · exact .inr ⟨e,g₀,g₂,e2,h.wider hh⟩
end Go.Proofs.Ytndppafplgilbaa
namespace Go.Proofs.Ytndppafplgilbaa
open Go Go.Conc
open Go.ConcN (sumTo upd sumTo_upd upd_ne upd_same)
structure Cli where
  G:Type
  X:Type
  own:Nat→G→X
  next:Nat→G→G→Prop
  stand:X→Option Int
  pan:X→Bool
  foot:G→Nat→Prop
  M:G→World→Prop
  low:∀ Γ w,M Γ w→∀ k,foot Γ k→k < w.heap.size
  stable:∀ Γ w w',M Γ w→(∀ k,foot Γ k→w'.heap[k]?=w.heap[k]?)→M Γ w'
  other:∀ i j Γ Γ',i≠j→next j Γ Γ'→own i Γ'=own i Γ
def Gm.put (g:Gm) (i:Nat) (st:St):Gm:={ g with ws:=g.ws.modify i fun p=>(p.1,st) }
structure Gst (C:Cli) where
  gm:Gm
  Γ:C.G
  kp:Nat→Prop
  w0:World
  home0:Goroutine→Prop
  kd:Int
  stn:Bool
  pn:Bool
  bx:Nat→Prop
def WkAt (ty:TypeId) (k:Wk) (kd:Int) (stn ov pn:Bool) (w:World):Prop :=
  w.heap[k.blk]?=some (.cells #[.chan (some k.turn),.chan (some k.back),.int .i64 kd,.bool stn,.bool ov,.bool pn] ty (0,0))
def BoxAt (pty:TypeId) (k:Wk) (fb:Nat) (w:World):Prop:=w.heap[fb]?=some (.cells #[.pointer (some (c0 k.blk 0))] pty (0,0))
section
variable (C:Cli) (ty pty:TypeId) (n0 gb i:Nat) (k:Wk)
structure Did (gh:Gst C) (Γ':C.G) (w:World):Prop where
  M:C.M Γ' w
  grow:∀ x,C.foot Γ' x→C.foot gh.Γ x∨gh.w0.heap.size≤x
  kp:∀ x,gh.kp x→w.heap[x]?=gh.w0.heap[x]?
  hid:∃ w1,RW (c0 gb 1) gh.w0 w1∧∀ x,gh.gm.H x→x≠k.blk→w.heap[x]?=w1.heap[x]?
  hidOk:HidOk gh.gm.H w
  size:gh.w0.heap.size≤w.heap.size
structure Mid (gh:Gst C) (Γ':C.G) (w:World):Prop where
  at_:gh.gm.ws[i]?=some (k,.gone)
  hn0:gh.gm.n0=n0
  hgb:gh.gm.gb=gb
  hpn:gh.pn=false
  wf:gh.gm.Wf
  kp_low:∀ x,gh.kp x→x < gh.w0.heap.size
  kp_foot:∀ x,gh.kp x→¬ C.foot gh.Γ x
  kp_H:∀ x,gh.kp x→¬ gh.gm.H x
  H_low:∀ x,gh.gm.H x→x < gh.w0.heap.size
  H_foot:∀ x,gh.gm.H x→¬ C.foot gh.Γ x
  did:Did C gb k gh Γ' w
  wk:WkAt ty k gh.kd gh.stn false gh.pn w
  chT:gh.kp k.turn∧∃ cl n,w.heap[k.turn]?=some (.chan 0 #[] cl n n false)
  chB:gh.kp k.back∧∃ n,w.heap[k.back]?=some (.chan 0 #[] false n n false)
structure Ready (fb:Nat) (gh:Gst C) (w:World):Prop where
  mid:Mid C ty n0 gb i k gh gh.Γ w
  w0:gh.w0=w
  box:gh.kp fb∧BoxAt pty k fb w
  bx:gh.w0.heap.size≤fb∨gh.bx fb
variable (P:Program) (Post:Value→World→Prop)
structure KontC (I:Nat→C.X→Goroutine→Prop) (gh:Gst C):Prop where
  yield:∀ Γ' fb kind w n,C.next i gh.Γ Γ'→C.stand (C.own i Γ')=some kind→Did C gb k gh Γ' w→WkAt ty k kind gh.stn false gh.pn w→BoxAt pty k fb w→¬ C.foot Γ' fb→¬ gh.gm.H fb→w.heap[k.back]?=some (.chan 0 #[] false n n false)→(gh.w0.heap.size≤fb∨gh.bx fb) →
    ∀ g0,gh.home0 g0→Lh P Post (sitG (gh.gm.put i (.sits (I fb (C.own i Γ')) fb))) 0 (Go.Conc.served g0 (.bool true)) (w.setChan k.back 0 #[] false (n + 1) (n + 1) false)
  fin:∀ Γ' kd ov w n,C.next i gh.Γ Γ'→C.stand (C.own i Γ')=none→Did C gb k gh Γ' w→WkAt ty k kd gh.stn ov (C.pan (C.own i Γ')) w→w.heap[k.back]?=some (.chan 0 #[] false n n false) →
    ∀ g0,gh.home0 g0→Lh P Post (sitG (gh.gm.put i .done)) 0 (Go.Conc.served g0 (.bool false)) (w.setChan k.back 0 #[] false (n + 1) (n + 1) false)
  openT:∃ n,gh.w0.heap[k.turn]?=some (.chan 0 #[] false n n false)
def KontD (gh:Gst C):Prop:=∀ kd ov pn w n,Did C gb k gh gh.Γ w→WkAt ty k kd gh.stn ov pn w→w.heap[k.back]?=some (.chan 0 #[] false n n false) →
    ∀ g0,gh.home0 g0→Lh P Post (sitG (gh.gm.put i .done)) 0 (Go.Conc.served g0 (.bool false)) (w.setChan k.back 0 #[] false (n + 1) (n + 1) false)
def HomeF (I:Nat→C.X→Goroutine→Prop) (fb:Nat) (x:C.X) (g:Goroutine):Prop :=
  (∀ gh w,Ready C ty pty n0 gb i k fb gh w→C.own i gh.Γ=x→KontC C ty pty gb i k P Post I gh→Lh P Post (sitC gh.gm gh.home0 k) (n0 + i) (Go.Conc.served g (.tuple #[zT,.bool true])) w) ∧
  (∀ gh w,Ready C ty pty n0 gb i k fb gh w→C.own i gh.Γ=x→KontD C ty gb i k P Post gh→Lh P Post (sitC gh.gm gh.home0 k) (n0 + i) (Go.Conc.served g (.tuple #[zT,.bool false])) w)
def Home (fb:Nat) (x:C.X) (g:Goroutine):Prop:=∃ I:Nat→C.X→Goroutine→Prop,(∀ fb x g,I fb x g→HomeF C ty pty n0 gb i k P Post I fb x g)∧I fb x g
end
section
variable {P:Program} {Post:Value→World→Prop}
theorem put_at {g:Gm} {i:Nat} {p:Wk × St} (hi:g.ws[i]?=some p) (st:St):(g.put i st).ws[i]?=some (p.1,st):=by
  simp [Gm.put,List.getElem?_modify,hi]
theorem put_ne {g:Gm} {i j:Nat} (h:i≠j) (st:St):(g.put i st).ws[j]?=g.ws[j]?:=by
  simp [Gm.put,List.getElem?_modify,h]
theorem put_len {g:Gm} {i:Nat} (st:St):(g.put i st).ws.length=g.ws.length:=by simp [Gm.put]
theorem put_mem {g:Gm} {i:Nat} {st:St} {q:Wk × St} (h:q∈(g.put i st).ws):∃ q'∈g.ws,q'.1=q.1:=by
  obtain ⟨j,hj,e⟩:=List.getElem_of_mem h
  have hj':(g.put i st).ws[j]?=some q:=by rw [List.getElem?_eq_getElem hj,e]
  by_cases hij:i=j
  · subst hij
    cases ho:g.ws[i]? with
    | none=>simp [Gm.put,List.getElem?_modify,ho] at hj'
    | some p=>rw [put_at ho] at hj';cases hj';exact ⟨p,Gm.at ho,rfl⟩
  · rw [put_ne hij] at hj';exact ⟨q,Gm.at hj',rfl⟩
theorem mem_put {g:Gm} {i:Nat} {st:St} {q:Wk × St} (h:q∈g.ws):∃ q'∈(g.put i st).ws,q'.1=q.1:=by
  obtain ⟨j,hj,e⟩:=List.getElem_of_mem h
  have hj':g.ws[j]?=some q:=by rw [List.getElem?_eq_getElem hj,e]
  by_cases hij:i=j
  · subst hij;exact ⟨_,Gm.at (put_at hj' st),rfl⟩
  · exact ⟨q,Gm.at (by rw [put_ne hij];exact hj'),rfl⟩
theorem put_at' {g:Gm} {i j:Nat} {st:St} {q:Wk × St} (h:(g.put i st).ws[j]?=some q):∃ q',g.ws[j]?=some q'∧q'.1=q.1:=by
  by_cases hij:i=j
  · subst hij
    cases ho:g.ws[i]? with
    | none=>simp [Gm.put,List.getElem?_modify,ho] at h
    | some p=>rw [put_at ho] at h;cases h;exact ⟨p,rfl,rfl⟩
  · rw [put_ne hij] at h;exact ⟨q,h,rfl⟩
theorem put_wf {g:Gm} (W:g.Wf) (i:Nat) (st:St):(g.put i st).Wf :=
  ⟨fun p hp=>by obtain ⟨q,hq,e⟩:=put_mem hp;rw [← e];exact W.blk q hq,fun p hp=>by obtain ⟨q,hq,e⟩:=put_mem hp;rw [← e];exact W.self q hq,
    fun a b p q ha hb hab x hx=>by obtain ⟨p',hp',e1⟩:=put_at' ha;obtain ⟨q',hq',e2⟩:=put_at' hb;rw [← e1] at hx;rw [← e2];exact W.other a b p' q' hp' hq' hab x hx,
    fun x hx=>⟨(W.old x hx).1,fun p hp=>by obtain ⟨q,hq,e⟩:=put_mem hp;rw [← e];exact (W.old x hx).2 q hq⟩,W.pos,by rw [put_len];exact W.few⟩
theorem put_K (g:Gm) (i:Nat) (st:St):(g.put i st).K=g.K:=by
  funext w
  apply propext
  constructor
  · intro h p hp;obtain ⟨q,hq,e⟩:=mem_put (i:=i) (st:=st) hp;have:=h q hq;rwa [e] at this
  · intro h p hp;obtain ⟨q,hq,e⟩:=put_mem hp;have:=h q hq;rwa [e] at this
theorem put_H (g:Gm) (i:Nat) (st:St):(g.put i st).H=g.H:=by
  funext x
  apply propext
  unfold Gm.H
  constructor
  · rintro (h | h | ⟨p,hp,h⟩)
    · exact .inl h
    · exact .inr (.inl h)
    · obtain ⟨q,hq,e⟩:=put_mem hp;exact .inr (.inr ⟨q,hq,by rw [e];exact h⟩)
  · rintro (h | h | ⟨p,hp,h⟩)
    · exact .inl h
    · exact .inr (.inl h)
    · obtain ⟨q,hq,e⟩:=mem_put (i:=i) (st:=st) hp;exact .inr (.inr ⟨q,hq,by rw [e];exact h⟩)
theorem put_S (g:Gm) (i:Nat) (st:St):(g.put i st).S=g.S:=by
  funext x l
  apply propext
  unfold Gm.S
  constructor
  · rintro ⟨h,p,hp,e⟩
    obtain ⟨q,hq,e2⟩:=put_at' hp
    exact ⟨h,q,hq,by rw [e2];exact e⟩
  · rintro ⟨h,p,hp,e⟩
    have hn:(g.put i st).n0=g.n0:=rfl
    by_cases hij:i=x - g.n0
    · subst hij;exact ⟨h,_,put_at hp st,e⟩
    · exact ⟨h,p,by rw [hn,put_ne hij];exact hp,e⟩
theorem put_R0 {g:Gm} {i:Nat} {p:Wk × St} (hi:g.ws[i]?=some p) (st:St):(g.put i st).R0=upd g.R0 (g.n0 + i) (roleOf (p.1,st)):=by
  funext x
  by_cases e:x=g.n0 + i
  · subst e
    rw [upd_same]
    exact Gm.R0_at (g:=g.put i st) (put_at hi st)
  · rw [upd_ne _ _ e]
    unfold Gm.R0
    show (if g.n0≤x then _ else _)=_
    split
    · rename_i hx
      rw [show (g.put i st).n0=g.n0 from rfl,put_ne (by omega)]
    · rfl
theorem put_put (g:Gm) (i:Nat) (a b:St):(g.put i a).put i b=g.put i b:=by
  simp only [Gm.put,Gm.mk.injEq,true_and]
  apply List.ext_getElem?
  intro j
  simp only [List.getElem?_modify]
  split
  · cases g.ws[j]? <;> rfl
  · cases g.ws[j]? <;> rfl
theorem put_self {g:Gm} {i:Nat} {k:Wk} {st:St} (hi:g.ws[i]?=some (k,st)):g.put i st=g:=by
  cases g
  simp only [Gm.put,Gm.mk.injEq,true_and]
  apply List.ext_getElem?
  intro j
  simp only [List.getElem?_modify]
  split
  · rename_i e;subst e;simp only at hi;rw [hi];rfl
  · rename_i e;simp [Option.map_id']
theorem sitG_put {g:Gm} {i:Nat} {p:Wk × St} (hi:g.ws[i]?=some p) (st:St):sitG (g.put i st)={ sitG g with R0:=upd (sitG g).R0 (g.n0 + i) (roleOf (p.1,st)) }:=by
  unfold sitG
  simp only [Sit.mk.injEq]
  refine ⟨put_K _ _ _,put_S _ _ _,rfl,rfl,put_R0 hi st,?_,?_,trivial⟩
  · funext x;unfold Gm.A0;rw [put_len];rfl
  · rw [put_len];rfl
theorem give_back {g:Gm} (W:g.Wf) {i:Nat} {p:Wk × St} (hi:g.ws[i]?=some p) (st:St) (home0:Goroutine→Prop) {a:Goroutine} {w:World} (H:Lh P Post (sitG (g.put i st)) 0 a w) :
    Lh P Post { sitC g home0 p.1 with S:=fun x=>if x=g.n0 + i then g.S (g.n0 + i) else (sitC g home0 p.1).S x,R0:=upd (sitC g home0 p.1).R0 (g.n0 + i) (roleOf (p.1,st)) } 0 a w:=by
  have hp:=W.pos
  refine Lh.self (S':=(sitG (g.put i st)).S) (R':=(sitG (g.put i st)).R0) (fun x hx=>?_) (fun x hx=>?_) ?_ ?_
  · show (g.put i st).S x=if x=g.n0 + i then g.S (g.n0 + i) else (if x=0 then S0 p.1 else g.S x)
    rw [put_S]
    by_cases e:x=g.n0 + i
    · rw [if_pos e,e]
    · rw [if_neg e,if_neg hx]
  · show (g.put i st).R0 x=upd (upd g.R0 0 (.seat p.1.back (.bool false) false home0)) (g.n0 + i) (roleOf (p.1,st)) x
    rw [put_R0 hi]
    by_cases e:x=g.n0 + i
    · rw [e,upd_same,upd_same]
    · rw [upd_ne _ _ e,upd_ne _ _ e,upd_ne _ _ hx]
  · exact Gm.R0_out (g:=g.put i st) (.inl W.pos)
  · have e:=sitG_put hi st
    have e2:({ sitC g home0 p.1 with S:=(sitG (g.put i st)).S,R0:=(sitG (g.put i st)).R0 }:Sit)=sitG (g.put i st):=by rw [e];rfl
    show Lh P Post { sitC g home0 p.1 with S:=(sitG (g.put i st)).S,R0:=(sitG (g.put i st)).R0 } 0 a w
    rw [e2];exact H
theorem Lh.wider {s:Sit} {h j c:Nat} {z:Value} {ok:Bool} {home home':Goroutine→Prop} (hh:∀ g,home g→home' g) (hj:s.R0 j=.seat c z ok home) {g:Goroutine} {w:World} (H:Lh P Post { s with R0:=upd s.R0 j (.seat c z ok home') } h g w):Lh P Post s h g w:=by
  rintro m T ⟨gs,sl,q,Rl,A,w₁,rfl,rw₁,hn,ha,C,sm,hd,hA1,hA2,hRR⟩
  have hRj:Rl j=.seat c z ok home:=(hRR j (.inl (by rw [hj];trivial))).trans hj
  have hsit:∀ x,(upd Rl j (.seat c z ok home') x).sits ↔ (Rl x).sits:=fun x=>by
    by_cases e:x=j
    · subst e;rw [upd_same,hRj];exact Iff.rfl
    · rw [upd_ne _ _ e]
  have hhas:∀ x d,(upd Rl j (.seat c z ok home') x).has d ↔ (Rl x).has d:=fun x d=>by
    by_cases e:x=j
    · subst e;rw [upd_same,hRj];exact Iff.rfl
    · rw [upd_ne _ _ e]
  have hMem:(fun g=>¬ g=h∧(upd Rl j (.seat c z ok home') g).sits)=fun g=>¬ g=h∧(Rl g).sits:=by
    funext x;exact propext ⟨fun ⟨a,b⟩=>⟨a,(hsit x).1 b⟩,fun ⟨a,b⟩=>⟨a,(hsit x).2 b⟩⟩
  have hsitR:∀ x,(upd s.R0 j (.seat c z ok home') x).sits ↔ (s.R0 x).sits:=fun x=>by
    by_cases e:x=j
    · subst e;rw [upd_same,hj];exact Iff.rfl
    · rw [upd_ne _ _ e]
  refine H _ _ ⟨gs,sl,q,upd Rl j (.seat c z ok home'),A,w₁,rfl,rw₁,hn,ha,⟨fun x y hx hy=>?_,fun x d hD hc=>C.chans x d hD ((hhas x d).1 hc),fun _ _ h=>h.elim,fun _ h=>h.elim,fun x x' d h1 h2=>C.inj x x' d ((hhas x d).1 h1) ((hhas x' d).1 h2),C.above,fun x hx e=>?_,?_,C.shun,C.keep,C.cell,C.few,C.low,fun x y h1 h2=>C.slow x y ((hsit x).1 h1) h2,fun x hx hsx hAx=>?_⟩,sm.upd j _,hd,fun x hx=>hA1 x (hx.imp id fun h=>h.imp (hsitR x).1 id),hA2,fun x hx=>?_⟩
  · have hi:=C.idle x y hx hy
    by_cases e:x=j
    · subst e
      rw [hRj] at hi
      rw [upd_same];exact SitsS.wider hh hi
    · rw [upd_ne _ _ e];exact hi
  · by_cases ej:x=j
    · subst ej;rw [upd_same] at e;cases e
    · rw [upd_ne _ _ ej] at e;exact C.aliveD x hx e
  · show PastW s.Shun s.S _ _ h T
    rw [hMem];exact C.past
  · by_cases ej:x=j
    · subst ej;rw [upd_same];intro e;cases e
    · rw [upd_ne _ _ ej];exact C.aliveC x hx hsx hAx
  · show upd Rl j _ x=upd s.R0 j _ x
    by_cases ej:x=j
    · subst ej;rw [upd_same,upd_same]
    · rw [upd_ne _ _ ej,upd_ne _ _ ej]
      exact hRR x (hx.imp (hsitR x).1 id)
section
variable {C:Cli} {ty pty:TypeId} {n0 gb i:Nat} {k:Wk}
theorem KontC.less {I J:Nat→C.X→Goroutine→Prop} (h:∀ fb x g,I fb x g→J fb x g) {gh:Gst C} (hi:∃ st,gh.gm.ws[i]?=some (k,st)) (K:KontC C ty pty gb i k P Post J gh):KontC C ty pty gb i k P Post I gh:=by
  refine ⟨fun Γ' fb kind w n h0 h1 h2 h3 h4 h5 h6 h7 h8 g0 hg0=>?_,K.fin,K.openT⟩
  obtain ⟨st,hi⟩:=hi
  have e1:=put_at hi (.sits (I fb (C.own i Γ')) fb)
  have hR:=Gm.R0_at e1
  refine Lh.wider (home':=J fb (C.own i Γ')) (fun g hg=>h _ _ g hg) (s:=sitG (gh.gm.put i (.sits (I fb (C.own i Γ')) fb))) hR ?_
  have:=K.yield Γ' fb kind w n h0 h1 h2 h3 h4 h5 h6 h7 h8 g0 hg0
  have e:=sitG_put e1 (.sits (J fb (C.own i Γ')) fb)
  rw [put_put] at e
  rw [e] at this
  exact this
theorem HomeF.mono {I J:Nat→C.X→Goroutine→Prop} (h:∀ fb x g,I fb x g→J fb x g) {fb:Nat} {x:C.X} {g:Goroutine} (H:HomeF C ty pty n0 gb i k P Post I fb x g):HomeF C ty pty n0 gb i k P Post J fb x g :=
  ⟨fun gh w R e K=>H.1 gh w R e (KontC.less h ⟨_,R.mid.at_⟩ K),H.2⟩
theorem Home.out {fb:Nat} {x:C.X} {g:Goroutine} (H:Home C ty pty n0 gb i k P Post fb x g):HomeF C ty pty n0 gb i k P Post (Home C ty pty n0 gb i k P Post) fb x g:=by
  obtain ⟨I,h1,h2⟩:=H
  exact HomeF.mono (fun fb x g h=>⟨I,h1,h⟩) (h1 fb x g h2)
theorem Home.into {fb:Nat} {x:C.X} {g:Goroutine} (H:HomeF C ty pty n0 gb i k P Post (Home C ty pty n0 gb i k P Post) fb x g):Home C ty pty n0 gb i k P Post fb x g :=
  ⟨HomeF C ty pty n0 gb i k P Post (Home C ty pty n0 gb i k P Post),fun fb x g h=>HomeF.mono (fun fb x g h=>Home.out h) h,H⟩
theorem WkAt.cell {kd:Int} {stn ov pn:Bool} {w:World} (h:WkAt ty k kd stn ov pn w) (o:Nat):w.cell? (c0 k.blk o)=(#[.chan (some k.turn),.chan (some k.back),.int .i64 kd,.bool stn,.bool ov,.bool pn]:Array Value)[o]?:=cell_of h rfl
theorem WkAt.frozen {kd:Int} {stn ov pn:Bool} {w:World} (h:WkAt ty k kd stn ov pn w) (o:Nat):w.frozen? (c0 k.blk o)=false:=by
  unfold World.frozen?
  have h':w.heap[(c0 k.blk o).block]?=some (.cells #[.chan (some k.turn),.chan (some k.back),.int .i64 kd,.bool stn,.bool ov,.bool pn] ty (0,0)):=h
  rw [h'];simp
theorem WkAt.kind {kd kd':Int} {stn ov pn:Bool} {w:World} (h:WkAt ty k kd stn ov pn w):WkAt ty k kd' stn ov pn (w.setCell (c0 k.blk 2) (.int .i64 kd')):=setCell_self (a:=c0 k.blk 2) _ h rfl
theorem WkAt.stands {kd:Int} {stn stn' ov pn:Bool} {w:World} (h:WkAt ty k kd stn ov pn w):WkAt ty k kd stn' ov pn (w.setCell (c0 k.blk 3) (.bool stn')):=setCell_self (a:=c0 k.blk 3) _ h rfl
theorem WkAt.over {kd:Int} {stn ov ov' pn:Bool} {w:World} (h:WkAt ty k kd stn ov pn w):WkAt ty k kd stn ov' pn (w.setCell (c0 k.blk 4) (.bool ov')):=setCell_self (a:=c0 k.blk 4) _ h rfl
theorem WkAt.panics {kd:Int} {stn ov pn pn':Bool} {w:World} (h:WkAt ty k kd stn ov pn w):WkAt ty k kd stn ov pn' (w.setCell (c0 k.blk 5) (.bool pn')):=setCell_self (a:=c0 k.blk 5) _ h rfl
theorem Gm.K_own {g:Gm} (W:g.Wf) {j:Nat} {p:Wk × St} (hj:g.ws[j]?=some p) {o:Nat} (ho:2≤o) {x:Value} {w:World} (h:g.K w):g.K (w.setCell (c0 p.1.blk o) x):=fun q hq=>by
  have e0:(c0 p.1.blk o).block≠(c0 q.1.blk 0).block∨(c0 p.1.blk o).off≠(c0 q.1.blk 0).off:=.inr (by show o≠0;omega)
  have e1:(c0 p.1.blk o).block≠(c0 q.1.blk 1).block∨(c0 p.1.blk o).off≠(c0 q.1.blk 1).off:=.inr (by show o≠1;omega)
  have e2:(c0 p.1.blk o).block≠(c0 q.1.var 0).block∨(c0 p.1.blk o).off≠(c0 q.1.var 0).off:=.inr (by show o≠0;omega)
  rw [cell_set_ne e0,cell_set_ne e1,cell_set_ne e2]
  exact h q hq
theorem Gm.Wf.noShun {g:Gm} (W:g.Wf) {p:Wk × St} (hp:p∈g.ws) (o:Nat):¬ ShunOf (g.gb :: g.old) (.cell (c0 p.1.blk o)):=by
  rintro ⟨x,hx,h⟩
  have e:p.1.blk=x:=by rcases h with h | h <;> (cases h;rfl)
  rcases List.mem_cons.1 hx with rfl | hx
  · exact (W.blk p hp).1 e
  · exact (W.old x hx).2 p hp (by rw [← e];simp [Wk.nums])
end
end
end Go.Proofs.Ytndppafplgilbaa
