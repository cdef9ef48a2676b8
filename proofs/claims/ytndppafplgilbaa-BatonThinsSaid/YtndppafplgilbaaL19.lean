/-
  larchlaw04.BatonThins returns true for every input. No condition. (Part 19 of 49; joined by program.)
-/
import Derived.Test.YtndppafplgilbaaProg
import Derived.Test.YtndppafplgilbaaL17
import Derived.WalkKit
import Derived.Conc.CompanyMem
set_option linter.unusedVariables false
set_option linter.unusedSimpArgs false
set_option linter.unusedSectionVars false
set_option maxRecDepth 100000
namespace Go.Proofs.Ytndppafplgilbaa
open Go Go.Conc Go.RowKit
open Go.ConcN (sumTo upd sumTo_upd upd_ne upd_same)
abbrev wkT:TypeId:=175
abbrev wkP:TypeId:=171
def Sit.of {C:Cli} (k:Wk) (gh:Gst C):Sit:=sitC gh.gm gh.home0 k
def LK (C:Cli) (n0 i:Nat) (k:Wk) (P:Program) (Post:Value→World→Prop) (Kt:Gst C→Prop) (gh:Gst C) (g:Goroutine) (w:World):Prop :=
  (Sit.of k gh).Ok→Kt gh→Lh P Post (Sit.of k gh) (n0 + i) g w
theorem ownK (C:Cli) (n0 i:Nat) (k:Wk) (P:Program) (Post:Value→World→Prop) (Kt:Gst C→Prop):OwnL P (Sit.of (C:=C) k) (n0 + i) (LK C n0 i k P Post Kt) :=
  ⟨fun s g w hok hr H ok kont=>Lh.step ok hr fun w₁ r=>by
      obtain ⟨g',w',es,h1,h2,h3,h4⟩:=H w₁ r
      refine ⟨g',w',es,h1,h2,?_⟩
      rw [h3];exact h4 ok kont,
    fun s g w w₁ H r ok kont=>(H ok kont).rw r,fun s g w H ok kont=>H ok ok kont⟩
def TA (P:Program) (v z:Value) (b:Bool):Prop:=∀ (a:Act) (w:World),a.eval (.tmp 8)=v→(execOp a.eval { dst:=some 9,op:=.typeAssert (.tmp 8) 20 204 true,type:=205,pos := "baton.go:57",after:=#[{ on:=0,ground:=.data }],guard:=none }).run P w=.ok (.value (.tuple #[z,.bool b])) w∧(execOp a.eval { dst:=some 9,op:=.typeAssert (.tmp 8) 20 204 true,type:=205,pos := "baton.go:57",after:=#[{ on:=0,ground:=.data }],guard:=none }).events P w #[]=#[]
structure Ending (C:Cli) (n0 gb i:Nat) (k:Wk) (fb:Nat) (gh:Gst C) (Γ':C.G) (w:World):Prop where
  at_:gh.gm.ws[i]?=some (k,.gone)
  hn0:gh.gm.n0=n0
  hgb:gh.gm.gb=gb
  wf:gh.gm.Wf
  did:Did C gb k gh Γ' w
  chB:∃ n,w.heap[k.back]?=some (.chan 0 #[] false n n false)
  box:BoxAt wkP k fb w
  boxH:¬ gh.gm.H fb
  kp_low:∀ x,gh.kp x→x < gh.w0.heap.size
  kp_H:∀ x,gh.kp x→¬ gh.gm.H x
  H_low:∀ x,gh.gm.H x→x < gh.w0.heap.size
  H_foot:∀ x,gh.gm.H x→¬ C.foot gh.Γ x
theorem Ending.alone {C:Cli} {n0 gb i:Nat} {k:Wk} {fb:Nat} {gh:Gst C} {Γ':C.G} {w v v' w':World} (E:Ending C n0 gb i k fb gh Γ' w) (M:Masked gh.gm.H 0 v w) (A:Alone (c0 gb 1) gh.gm.H w v' w') (hnew:∀ x,x < v.heap.size→v'.heap[x]?=v.heap[x]?) :
    Ending C n0 gb i k fb gh Γ' w'∧w'.heap[k.blk]?=w.heap[k.blk]?:=by
  have hlow:∀ x,x < w.heap.size→¬ gh.gm.H x→w'.heap[x]?=w.heap[x]?:=fun x hx hH=>Alone.keep M A hH (hnew x (by rw [M.size];exact hx))
  have hbk:k.blk≠gb:=by rw [← E.hgb];exact (E.wf.blk _ (Gm.at E.at_)).1
  have hfH:=E.did.footH E.H_low E.H_foot
  have hfb:fb < w.heap.size:=(Array.getElem?_eq_some_iff.1 E.box).1
  refine ⟨⟨E.at_,E.hn0,E.hgb,E.wf,E.did.alone E.hgb hbk M A (C.stable _ _ _ E.did.M fun x hx=>hlow x (C.low _ _ E.did.M x hx) fun h=>hfH x h hx) (fun x hx=>.inl hx) (fun x hx=>?_) E.kp_H,?_,(hlow fb hfb E.boxH).trans E.box,E.boxH,E.kp_low,E.kp_H,E.H_low,E.H_foot⟩,A.own (.inr (.inr ⟨_,Gm.at E.at_,.inl rfl⟩)) hbk⟩
  · exact hnew x (by rw [M.size];exact Nat.lt_of_lt_of_le (E.kp_low x hx) E.did.size)
  · obtain ⟨n,hn⟩:=E.chB
    exact ⟨n,A.obj hn fun _ _ _ h=>by cases h⟩
def KF (C:Cli) (gb i:Nat) (k:Wk) (P:Program) (Post:Value→World→Prop) (gh:Gst C) (Γ':C.G) (pn:Bool):Prop :=
  ∀ kd ov w n,Did C gb k gh Γ' w→WkAt wkT k kd gh.stn ov pn w→w.heap[k.back]?=some (.chan 0 #[] false n n false) →
    ∀ g0,gh.home0 g0→Lh P Post (sitG (gh.gm.put i .done)) 0 (Go.Conc.served g0 (.bool false)) (w.setChan k.back 0 #[] false (n + 1) (n + 1) false)
section
variable {C:Cli} {n0 gb i:Nat} {k:Wk} {Post:Value→World→Prop} {Kt:Gst C→Prop}
theorem tail_send {fb:Nat} {gh:Gst C} {Γ':C.G} {w:World} (E:Ending C n0 gb i k fb gh Γ' w) {kd:Int} {ov pn:Bool} (hwk:WkAt wkT k kd gh.stn ov pn w) (hK:Kt gh→KF C gb i k Try.prog Post gh Γ' pn) {cs:List Frame} (hW:∀ a:Act,a.defers=[]→WayDone Try.prog (c0 gb 1) 0 (G ((bk 125 .deferred).at a []) cs) w)
    {x1 x2 x3 x4 x5 x6 x7 x8 x9 x10 x11 x12 x13 x14 x15 x16:Value} :
    LK C n0 i k Try.prog Post Kt gh (G ((bk 125 .deferred).at ⟨#[.pointer (some (c0 fb 0)),x1,x2,x3,x4,x5,x6,x7,x8,x9,x10,x11,x12,x13,x14,x15,x16,undef,undef,undef,undef],[]⟩ [.code (Code.region 4
          #[{ dst:=some 17,op:=Op.load 171 (Operand.tmp 0),type:=171,pos := "baton.go:60",after:=#[],
              guard:=none },
            { dst:=some 18,op:=Op.nilCheck (Operand.tmp 17),type:=0,pos := "baton.go:60",
              after:=#[{ on:=0,ground:=Ground.data }],guard:=none },
            { dst:=some 19,op:=Op.fieldAddr wkT (Operand.tmp 18) 1,type:=0,pos := "baton.go:60",
              after:=#[{ on:=1,ground:=Ground.data }],guard:=none },
            { dst:=some 20,op:=Op.load 173 (Operand.tmp 19),type:=173,pos := "baton.go:60",
              after:=#[{ on:=2,ground:=Ground.data }],guard:=none },
            { dst:=none,op:=Op.send (Operand.tmp 20) (Operand.const (Value.bool false)),type:=0,
              pos := "baton.go:60",after:=#[{ on:=3,ground:=Ground.data }],guard:=none }]
          false)]) cs) w:=by
  have O:=ownK C n0 i k Try.prog Post Kt
  have T:=O.toCtl
  have hfgb:fb≠gh.gm.gb:=fun e=>E.boxH (.inl e)
  have hq:(Try.prog.funcs[125]?).any (·.norace)=false:=by rw [Try.func125];rfl
  have hbg:k.blk≠gh.gm.gb:=(E.wf.blk _ (Gm.at E.at_)).1
  have hback:w.cell? ⟨k.blk,1,none⟩=some (.chan (some k.back)):=hwk.cell 1
  have hns2:¬ ShunOf (gh.gm.gb :: gh.gm.old) (.cell ⟨k.blk,1,none⟩):=E.wf.noShun (Gm.at E.at_) 1
  (refine l_region T ?_;simp only [List.size_toArray,List.length_cons,List.length_nil,Nat.reduceAdd,Nat.zero_add,List.range,List.range.loop])
  have hns:¬ ShunOf (gh.gm.gb :: gh.gm.old) (.cell (c0 fb 0)):=fun h=>E.boxH (shun_H h)
  have hbox:w.cell? (c0 fb 0)=some (.pointer (some (c0 k.blk 0))):=cell_of (show w.heap[(c0 fb 0).block]?=_ from E.box) rfl
  (refine l_load O (by simp) rfl (by rfl) hbox (.inl hfgb) hns (fun w₁ hc₁=>⟨by go_simp,by simp [listed,go_sem,hc₁];exact seen_cell hq _ _ _⟩) ?_;walk_nrm)
  ((co_applyP (l_val T (by simp) rfl (by rfl) (fun w=>run_eq_of ?_) (fun w=>?_) ?_);rotate_left;(focus (intro K hK;go_simp;exact hK));(focus (solve | simp [go_sem])));walk_nrm)
  ((co_applyP (l_val T (by simp) rfl (by rfl) (fun w=>run_eq_of ?_) (fun w=>?_) ?_);rotate_left;(focus (intro K hK;go_simp;exact hK));(focus (solve | simp [go_sem])));walk_nrm)
  (refine l_load O (by simp) rfl (by rfl) hback (.inl hbg) hns2 (fun w₁ hc₁=>⟨by go_simp,by simp [listed,go_sem,hc₁];exact seen_cell hq _ _ _⟩) ?_;walk_nrm)
  intro ok hkt
  obtain ⟨n,hch⟩:=E.chB
  obtain ⟨n0',hn0⟩:∃ m,m=gh.gm.n0:=⟨_,rfl⟩
  have hpos:=E.wf.pos
  have hlen:i < gh.gm.ws.length:=(List.getElem?_eq_some_iff.1 E.at_).1
  rw [← E.hgb] at hW
  have key:∀ (ops:Array Oper) (ts:Array Value),∃ nh,Dones Try.prog (c0 gh.gm.gb 1) nh 0 (G ((bk 125 .deferred).at ⟨ts,[]⟩ [.inRegion ops []]) cs):=fun ops ts=>l_end wayDone_ctl (hW _ rfl)
  refine Lh.give ok rfl (j:=0) (c:=k.back) (z:=.bool false) (okr:=false) (home:=gh.home0) (v:=.bool false) (r':=.done) (S':=gh.gm.S (n0 + i)) (nh:=?nh) ?_ ?_ ?_ (atSend (z:=.tuple #[]) (by simp) rfl (by rfl) (fun w=>?_) (fun w=>?_)) hch ⟨?_,?_,?_,?_,?_,?_⟩ ?_
  rotate_left
  · rw [← E.hn0];omega
  · show 0 < gh.gm.n0 + gh.gm.ws.length;omega
  · exact upd_same gh.gm.R0 0 _
  · go_simp
    rfl
  · simp [go_sem]
  · rintro l ⟨_,p,hp,rfl⟩
    exact ⟨rfl,E.wf.noShun (Gm.at hp) 0⟩
  · rintro x ⟨_,p,hp,e⟩
    cases e
    rw [← E.hn0] at hp
    rw [show gh.gm.n0 + i - gh.gm.n0=i by omega,E.at_] at hp
    cases hp
    exact (Array.getElem?_eq_some_iff.1 hwk).1
  · intro c' hc';exact hc'.elim
  · intro _
    refine ⟨?_,rfl⟩
    show gh.gm.A0 (n0 + i)=true
    rw [← E.hn0]
    unfold Gm.A0
    simp;omega
  · intro _ h;cases h
  · intro T' hT'
    refine ⟨by rw [← E.hn0];omega,?_⟩
    rw [hT',served_bk rfl]
    exact (key _ _).choose_spec
  · intro g₂ hg₂
    have:=give_back (P:=Try.prog) (Post:=Post) E.wf E.at_ .done gh.home0 (hK hkt kd ov w n E.did hwk hch g₂ hg₂)
    rw [E.hn0] at this
    exact this
end
end Go.Proofs.Ytndppafplgilbaa
