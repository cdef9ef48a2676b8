/-
  larchlaw04.BatonThins returns true for every input. No condition. (Part 1 of 49; joined by program.)
-/
import Derived.Test.YtndppafplgilbaaRows
import Derived.WalkKit
import Derived.WalkSpells
import Derived.WalkLawsBesides
import Derived.Laws.LoneSync
import Derived.Lib.Hide
set_option linter.unusedVariables false
set_option linter.unusedSimpArgs false
set_option linter.unusedSectionVars false
set_option maxRecDepth 100000
namespace Go.Proofs.Ytndppafplgilbaa
open Go.RowKit
section
variable {P:Program} {f:FuncId} {fn:Func}
theorem run_call_swap (hf:P.funcs[f]?=some fn) (hname:(fn.name == "runtime.NumGoroutine")=false) (hb:fn.body.isNone=true) (hn:Extern.findNext fn=none) (k:IntKind)
    (he:Extern.find fn=some (Extern.Atomic.swapT (.int k))) {a:Addr} {x y:Int} {w:World} (hc:w.cell? a=some (.int k x)) (hz:w.frozen? a=false) :
    (callFunc f #[.pointer (some a),.int k y]).run P w=.ok (.value (.int k x)) (w.setCell a (.int k y)):=by
  rw [run_callFunc_extern hf hname hb hn he]
  change (Sem.run P (do
    let a' ← asAddr (.pointer (some a))
    let old ← Extern.Atomic.read (.int k) a'
    store a' (.int k y) .atomic
    pure old) w).andThen _=_
  simp [Extern.Atomic.read,asAddr,hc,hz,run_store P w a (.int k y) .atomic rfl,Result.andThen]
theorem run_call_bits (hf:P.funcs[f]?=some fn) (hname:(fn.name == "runtime.NumGoroutine")=false) (hb:fn.body.isNone=true) (hn:Extern.findNext fn=none) (k:IntKind) (op:BinOp)
    (he:Extern.find fn=some (Extern.Atomic.update (Op.intBits op) k false)) {a:Addr} {x y s:Int} {w:World} (hc:w.cell? a=some (.int k x)) (hz:w.frozen? a=false)
    (hs:(Op.intBits op k x y).run P w=.ok (.int k s) w) :
    (callFunc f #[.pointer (some a),.int k y]).run P w=.ok (.value (.int k x)) (w.setCell a (.int k s)):=by
  rw [run_callFunc_extern hf hname hb hn he]
  change (Sem.run P (do
    let a' ← asAddr (.pointer (some a))
    let old ← Extern.Atomic.read (.int k) a'
    let new ← Op.intBits op k (← asInt old) (← asInt (.int k y))
    store a' new .atomic
    pure (if false=true then new else old)) w).andThen _=_
  simp [Extern.Atomic.read,asAddr,asInt,asIntOf,hc,hz,hs,run_store P w a (.int k s) .atomic rfl,Result.andThen]
theorem setCell_keep {w:World} {a:Addr} {v:Value} (h:w.cell? a=some v):w.setCell a v=w:=by
  have hh:(w.setCell a v).heap=w.heap:=by
    unfold World.setCell
    apply Array.ext_getElem?
    intro i
    rw [Array.getElem?_modify]
    split
    · rename_i hi
      subst hi
      unfold World.cell? at h
      cases hb:w.heap[a.block]? with
      | none=>simp
      | some o =>
        rw [hb] at h
        cases o with
        | cells c e f =>
          simp only at h
          split at h
          · cases h
          · rename_i hs
            simp only [Option.map_some,hs,Option.some.injEq,Obj.cells.injEq,and_true]
            rw [if_neg (by simp)]
            apply Array.ext_getElem?
            intro j
            rw [Array.getElem?_setIfInBounds]
            split
            · rename_i hj
              subst hj
              have:=(Array.getElem?_eq_some_iff.1 h).1
              rw [if_pos this,h]
            · rfl
        | _=>cases h
    · rfl
  have e:w.setCell a v={ w with heap:=(w.setCell a v).heap }:=rfl
  rw [e,hh]
theorem intBits_and (k:IntKind) (x y:Int) (w:World):(Op.intBits .and k x y).run P w=.ok (.int k (Go.bits .and k x y)) w:=rfl
theorem intBits_or (k:IntKind) (x y:Int) (w:World):(Op.intBits .or k x y).run P w=.ok (.int k (Go.bits .or k x y)) w:=rfl
end
def casNew {α:Type} [DecidableEq α] (x o d:α):α:=if x=o then d else x
structure Turns (S:Nat→Prop) (w w':World):Prop where
  os:w'.os=w.os
  tape:w'.tape=w.tape
  output:w'.output=w.output
  size:w.heap.size≤w'.heap.size
  block:∀ k,k < w.heap.size→¬ S k→w'.heap[k]?=w.heap[k]?
theorem Turns.refl (S:Nat→Prop) (w:World):Turns S w w:=⟨rfl,rfl,rfl,Nat.le_refl _,fun _ _ _=>rfl⟩
theorem Turns.trans {S:Nat→Prop} {a b c:World} (h:Turns S a b) (k:Turns S b c):Turns S a c :=
  ⟨k.os.trans h.os,k.tape.trans h.tape,k.output.trans h.output,Nat.le_trans h.size k.size,fun i hi hs=>(k.block i (Nat.lt_of_lt_of_le hi h.size) hs).trans (h.block i hi hs)⟩
theorem Turns.mono {S S':Nat→Prop} {a b:World} (h:Turns S a b) (hs:∀ k,k < a.heap.size→S k→S' k):Turns S' a b :=
  ⟨h.os,h.tape,h.output,h.size,fun i hi hn=>h.block i hi (fun hk=>hn (hs i hi hk))⟩
theorem Turns.alloc (S:Nat→Prop) (w:World) (o:Obj):Turns S w (w.alloc o) :=
  ⟨rfl,rfl,rfl,by simp,fun k hk _=>heap_alloc_old w o hk⟩
theorem Turns.drew (S:Nat→Prop) (w:World):Turns S w w.drew:=⟨rfl,rfl,rfl,Nat.le_refl _,fun _ _ _=>rfl⟩
theorem Turns.setCell {S:Nat→Prop} (w:World) {a:Addr} (ha:S a.block) (v:Value):Turns S w (w.setCell a v) :=
  ⟨rfl,rfl,rfl,by simp [World.setCell],fun k _ hs=>Below.heap_setCell _ _ _ _ (fun e=>hs (e ▸ ha))⟩
theorem Turns.grown {S:Nat→Prop} {w w':World} {row:Option Nat} (h:w.grownBy w' row) (hs:∀ k,row=some k→S k):Turns S w w' :=
  ⟨h.os,h.tape,h.output,h.size,fun k hk hn=>h.block k hk (fun e=>hn (hs k e.symm))⟩
theorem Turns.below {S:Nat→Prop} {w w':World} (h:Turns S w w') {B:Nat} (hB:∀ k,S k→k < w.heap.size→B≤k) (hb:B≤w.heap.size):Below B w w' :=
  ⟨h.os,h.tape,h.output,h.size,fun k hk=>h.block k (by omega) (fun hs=>by have:=hB k hs (by omega);omega)⟩
theorem Turns.heap {S:Nat→Prop} {w w':World} (h:Turns S w w') {k:Nat} {o:Obj} (hk:w.heap[k]?=some o) (hn:¬ S k):w'.heap[k]?=some o:=by
  rw [h.block k (Array.getElem?_eq_some_iff.1 hk).1 hn,hk]
theorem Turns.row {S:Nat→Prop} {w w':World} (h:Turns S w w') {base:Nat} {e:TypeId} {size n:Nat} {v:Value} {xs:List Value} (ho:w.ownsRow base e size v n xs) (hn:∀ k,v.ownBlock=some k→¬ S k):w'.ownsRow base e size v n xs:=by
  refine ⟨ho.1,?_⟩
  rcases ho.2 with hv | ⟨g,cap,cur,rfl,hb,hgg,rest⟩
  · exact .inl hv
  · exact .inr ⟨g,cap,cur,rfl,hb,h.heap hgg (hn g rfl),rest⟩
theorem cell_of_heap {w:World} {b j:Nat} {c:Array Value} {e:TypeId} {f:Nat × Nat} {v:Value} (h:w.heap[b]?=some (.cells c e f)) (hj:c[j]?=some v):w.cell? ⟨b,j,none⟩=some v:=by
  simp [World.cell?,h,hj]
theorem frozen_of_heap {w:World} {b j:Nat} {c:Array Value} {e:TypeId} (h:w.heap[b]?=some (.cells c e (0,0))):w.frozen? ⟨b,j,none⟩=false:=by
  simp [World.frozen?,h]
theorem heap_setCell {w:World} {b j:Nat} {c:Array Value} {e:TypeId} {f:Nat × Nat} (h:w.heap[b]?=some (.cells c e f)) (v:Value):(w.setCell ⟨b,j,none⟩ v).heap[b]?=some (.cells (c.setIfInBounds j v) e f):=by
  simp [World.setCell,Array.getElem?_modify,h]
theorem heap_setCell_ne {w:World} {b k j:Nat} (h:k≠b) (v:Value):(w.setCell ⟨b,j,none⟩ v).heap[k]?=w.heap[k]?:=Below.heap_setCell _ _ _ _ h
theorem heap_lt {w:World} {b:Nat} {o:Obj} (h:w.heap[b]?=some o):b < w.heap.size:=(Array.getElem?_eq_some_iff.1 h).1
theorem Turns.cell {S:Nat→Prop} {w w':World} (h:Turns S w w') {b o:Nat} {v:Value} (hc:w.cell? ⟨b,o,none⟩=some v) (hn:¬ S b):w'.cell? ⟨b,o,none⟩=some v:=by
  have hb:=World.block_lt_of_cell? w ⟨b,o,none⟩ hc
  have:=World.cell?_of_block (w:=w) (a:=⟨b,o,none⟩) (h.block b hb hn)
  rw [this];exact hc
theorem row_base {w:World} {base base':Nat} {e:TypeId} {size n:Nat} {v:Value} {xs:List Value} (h:w.ownsRow base e size v n xs) (hb:base'≤base):w.ownsRow base' e size v n xs:=by
  refine ⟨h.1,?_⟩
  rcases h.2 with hv | ⟨g,cap,cur,hv,h1,rest⟩
  · exact .inl hv
  · exact .inr ⟨g,cap,cur,hv,by omega,rest⟩
theorem row_below {w w':World} {base:Nat} {e:TypeId} {size n:Nat} {v:Value} {xs:List Value} (h:w.ownsRow base e size v n xs) (hb:Below w.heap.size w w'):w'.ownsRow base e size v n xs:=by
  refine ⟨h.1,?_⟩
  rcases h.2 with hv | ⟨g,cap,cur,rfl,h1,h2,rest⟩
  · exact .inl hv
  · exact .inr ⟨g,cap,cur,rfl,h1,(hb.block g (heap_lt h2)).trans h2,rest⟩
theorem row_shape {w:World} {base:Nat} {e:TypeId} {size n:Nat} {v:Value} {xs:List Value} (h:w.ownsRow base e size v n xs):∃ a c,v=.slice a n c:=by
  rcases h.2 with ⟨rfl,rfl⟩ | ⟨g,cap,cur,rfl,_⟩
  · exact ⟨none,0,rfl⟩
  · exact ⟨_,_,rfl⟩
section
variable {P:Program} {w:World}
theorem append_block (base:Nat) (t ty e:TypeId) (i:TypeInfo) (z:Value) (size bytes:Nat) (ht:P.underlying t=some (.slice e)) (hi:P.info? e=some i) (hz:i.zero=some z)
    (hsize:i.size=size) (hby:i.bytes=bytes)
    (v:Value) (n:Nat) (xs:List Value) (hown:w.ownsRow base e size v n xs)
    (a:Addr) (m c:Nat) (news:List Value) (hl:news.length=m * size) (hnews:∀ j u,news[j]?=some u→w.cell? (a.add j)=some u) (h1:∀ u∈news,u.oneCell'=true)
    (h63:n + m≤maxLen) (hbytes:(n + m) * bytes≤140737488355328) {v':Value} {w':World}
    (hr:(Builtin.append_ #[t,t] ty #[v,.slice (some a) m c]).run P w=.ok v' w'):∀ g,v'.ownBlock=some g→v.ownBlock=some g∨w.heap.size≤g:=by
  subst hsize
  subst hby
  have hsmall:n + m≤9223372036854775807:=by simp only [maxLen] at h63;omega
  intro g' hg'
  rcases hown.2 with ⟨rfl,rfl⟩ | ⟨g,cap,cur,rfl,hbg,hg,hnc,hcm,hcs,htake⟩
  · by_cases hm:m=0
    · subst hm
      have hn:news=[]:=List.eq_nil_of_length_eq_zero (by simpa using hl)
      subst hn
      have hr2:(Builtin.append_ #[t,t] ty #[.slice none 0 0,.slice (some a) 0 c]).run P w=.ok (.slice none 0 0) w:=by
        simp [Builtin.append_,run_underlying ht,sizeOf,typeInfo,hi,Builtin.lenOf,Builtin.firstCells,loadCells,loadCellsFrom]
      rw [hr2] at hr
      injection hr with e1 e2
      subst e1
      simp [Value.ownBlock] at hg'
    · have hr2:=run_append_nil (P:=P) w t ty e i z ht hi hz a m c news hl hnews (by omega) (by omega) (by have hb:=hbytes;simp only [Nat.zero_add] at hb;omega)
      rw [hr2] at hr
      injection hr with e1 e2
      subst e1
      simp only [Value.ownBlock,Option.some.injEq] at hg'
      exact .inr (by omega)
  · by_cases hroom:n + m≤cap
    · have hfit:n * i.size + news.length≤cur.size:=by rw [hl,hcs,← Nat.add_mul];exact Nat.mul_le_mul_right _ hroom
      have hr2:=run_append_room (P:=P) w t ty e i ht hi g n cap cur hg a m c news hl hnews h1 hroom hfit
      rw [hr2] at hr
      injection hr with e1 e2
      subst e1
      exact .inl hg'
    · have holds:∀ j u,xs[j]?=some u→w.cell? ((⟨g,0,none⟩:Addr).add j)=some u:=hown.cells (g:=g) rfl
      have hr2:=run_append_grow (P:=P) w t ty e i z ht hi hz ⟨g,0,none⟩ n cap xs hown.1 holds a m c news hl hnews (by omega) (by omega) (growslice_fits (by omega) hbytes)
      rw [hr2] at hr
      injection hr with e1 e2
      subst e1
      simp only [Value.ownBlock,Option.some.injEq] at hg'
      exact .inr (by omega)
theorem cells_in_new (w0:World) (us:List Value) (e:TypeId):∀ j u,us[j]?=some u→(w0.alloc (.cells us.toArray e)).cell? ((⟨w0.heap.size,0,none⟩:Addr).add j)=some u:=by
  intro j u hu
  have hadd:(⟨w0.heap.size,0,none⟩:Addr).add j=⟨w0.heap.size,j,none⟩:=by unfold Addr.add;split <;> simp_all
  rw [hadd]
  exact cell_of_heap (heap_alloc_new w0 _) (by simpa using hu)
theorem wpList_append_one {ops:Array Oper} {rest:List Oper} {o:Oper} {a:Act} {Q:Exit→Act→World→Prop} (hgd:o.guard=none) (s x:Operand) (t:TypeId)
    (ho:o.op=.call { callee:=.builtin .append,args:=#[s,x],argTypes:=#[t,t] })
    (base:Nat) (e:TypeId) (i:TypeInfo) (z:Value) (size bytes:Nat) (ht:P.underlying t=some (.slice e)) (hi:P.info? e=some i) (hz:i.zero=some z)
    (hsize:i.size=size) (hby:i.bytes=bytes) (hzs:z.cells.size=size) (hsz:0 < size) (hbp:0 < bytes)
    (v:Value) (n:Nat) (xs us:List Value) (hs:a.eval s=v) (hown:w.ownsRow base e size v n xs) (hx:a.eval x=.slice (some ⟨w.heap.size,0,none⟩) 1 1)
    (hl:us.length=size) (h1:∀ u∈us,u.oneCell'=true) (hbytes:(n + 1) * bytes≤140737488355328) (hbase:base≤w.heap.size)
    (h:∀ v' w',w'.ownsRow base e size v' (n + 1) (xs ++ us)→Turns (fun k=>v.ownBlock=some k) w w'→(∀ g,v'.ownBlock=some g→v.ownBlock=some g∨w.heap.size≤g)→wpList P ops Q rest (a.put o.dst v') w') :
    wpList P ops Q (o :: rest) a (w.alloc (.cells us.toArray e)):=by
  have h63:n + 1≤maxLen:=by
    have:n + 1≤(n + 1) * bytes:=Nat.le_mul_of_pos_right _ hbp
    simp only [maxLen];omega
  refine wpList_plain hgd fun K hK=>?_
  have hl':us.length=1 * size:=by omega
  obtain ⟨v',w',hr,h2,h3,_⟩:=run_append_own (P:=P) (w.alloc (.cells us.toArray e)) base t o.type e i z size bytes ht hi hz hsize hby hzs hsz v n xs (hown.alloc _) ⟨w.heap.size,0,none⟩ 1 1 us hl' (cells_in_new w us e) h1 h63 hbytes (by simp;omega)
  have hblk:=append_block (P:=P) base t o.type e i z size bytes ht hi hz hsize hby v n xs (hown.alloc _) ⟨w.heap.size,0,none⟩ 1 1 us hl' (cells_in_new w us e) h1 h63 hbytes hr
  unfold Oper.wp execOp
  simp only [ho,resolve,invoke,builtin,Sem.run_bind,Sem.run_pure,Result.andThen_ok,List.map_toArray,List.map_cons,List.map_nil,hs,hx,hr]
  refine hK _ _ (h v' w' h2 ((Turns.alloc _ _ _).trans (Turns.grown h3 (fun _ hk=>hk))) (fun g hg=>?_))
  rcases hblk g hg with h4 | h4
  · exact .inl h4
  · exact .inr (by simp at h4;omega)
end
end Go.Proofs.Ytndppafplgilbaa
namespace Go.Proofs.Ytndppafplgilbaa
open Go.RowKit
theorem i64_load (b off:Nat) (x:Int) (w:World) (hc:w.cell? ⟨b,off,none⟩=some (.int .i64 x)) :
    Calls Try.prog 90 #[.pointer (some ⟨b,off,none⟩)] w fun e w'=>e=.returned (.int .i64 x)∧w=w':=by
  have h:=run_call_load (P:=Try.prog) Try.func110 (by kernel_rfl) (by kernel_rfl) (by kernel_rfl) .i64 (by kernel_rfl) hc
  go_enter Try.func90,Try.ntmps90
  go_wp2
  go_ret
  exact ⟨rfl,rfl⟩
theorem i64_store (b off:Nat) (u:Value) (y:Int) (w:World) (hc:w.cell? ⟨b,off,none⟩=some u) (hz:w.frozen? ⟨b,off,none⟩=false) :
    Calls Try.prog 63 #[.pointer (some ⟨b,off,none⟩),.int .i64 y] w fun e w'=>e=.returned (.tuple #[])∧w.setCell ⟨b,off,none⟩ (.int .i64 y)=w':=by
  have h:=run_call_store (P:=Try.prog) Try.func100 (by kernel_rfl) (by kernel_rfl) (by kernel_rfl) (by kernel_rfl) (k:=.i64) (y:=y) hc hz
  go_enter Try.func63,Try.ntmps63
  go_wp2
  go_end0
  exact ⟨rfl,rfl⟩
theorem i64_add (b off:Nat) (x y:Int) (w:World) (hc:w.cell? ⟨b,off,none⟩=some (.int .i64 x)) (hz:w.frozen? ⟨b,off,none⟩=false) :
    Calls Try.prog 65 #[.pointer (some ⟨b,off,none⟩),.int .i64 y] w fun e w'=>e=.returned (.int .i64 (wrap64 (x + y)))∧w.setCell ⟨b,off,none⟩ (.int .i64 (wrap64 (x + y)))=w':=by
  have h:=run_call_add (P:=Try.prog) Try.func101 (by kernel_rfl) (by kernel_rfl) (by kernel_rfl) .i64 (by kernel_rfl) (y:=y) (s:=wrap64 (x + y)) hc hz (by simp [go_sem,IntWalk.i64_left])
  go_enter Try.func65,Try.ntmps65
  go_wp2
  go_ret
  exact ⟨rfl,rfl⟩
theorem i64_swap (b off:Nat) (x y:Int) (w:World) (hc:w.cell? ⟨b,off,none⟩=some (.int .i64 x)) (hz:w.frozen? ⟨b,off,none⟩=false) :
    Calls Try.prog 106 #[.pointer (some ⟨b,off,none⟩),.int .i64 y] w fun e w'=>e=.returned (.int .i64 x)∧w.setCell ⟨b,off,none⟩ (.int .i64 y)=w':=by
  have h:=run_call_swap (P:=Try.prog) Try.func132 (by kernel_rfl) (by kernel_rfl) (by kernel_rfl) .i64 (by kernel_rfl) (y:=y) hc hz
  go_enter Try.func106,Try.ntmps106
  go_wp2
  go_ret
  exact ⟨rfl,rfl⟩
theorem i64_and (b off:Nat) (x y:Int) (w:World) (hc:w.cell? ⟨b,off,none⟩=some (.int .i64 x)) (hz:w.frozen? ⟨b,off,none⟩=false) :
    Calls Try.prog 107 #[.pointer (some ⟨b,off,none⟩),.int .i64 y] w fun e w'=>e=.returned (.int .i64 x)∧w.setCell ⟨b,off,none⟩ (.int .i64 (Go.bits .and .i64 x y))=w':=by
  have h:=run_call_bits (P:=Try.prog) Try.func133 (by kernel_rfl) (by kernel_rfl) (by kernel_rfl) .i64 .and (by kernel_rfl) (y:=y) hc hz (intBits_and _ _ _ _)
  go_enter Try.func107,Try.ntmps107
  go_wp2
  go_ret
  exact ⟨rfl,rfl⟩
theorem i64_or (b off:Nat) (x y:Int) (w:World) (hc:w.cell? ⟨b,off,none⟩=some (.int .i64 x)) (hz:w.frozen? ⟨b,off,none⟩=false) :
    Calls Try.prog 108 #[.pointer (some ⟨b,off,none⟩),.int .i64 y] w fun e w'=>e=.returned (.int .i64 x)∧w.setCell ⟨b,off,none⟩ (.int .i64 (Go.bits .or .i64 x y))=w':=by
  have h:=run_call_bits (P:=Try.prog) Try.func134 (by kernel_rfl) (by kernel_rfl) (by kernel_rfl) .i64 .or (by kernel_rfl) (y:=y) hc hz (intBits_or _ _ _ _)
  go_enter Try.func108,Try.ntmps108
  go_wp2
  go_ret
  exact ⟨rfl,rfl⟩
set_option maxRecDepth 100000 in
theorem i64_cas (b off:Nat) (x o y:Int) (w:World) (hc:w.cell? ⟨b,off,none⟩=some (.int .i64 x)) (hz:w.frozen? ⟨b,off,none⟩=false) :
    Calls Try.prog 109 #[.pointer (some ⟨b,off,none⟩),.int .i64 o,.int .i64 y] w fun e w'=>e=.returned (.bool (x == o))∧w.setCell ⟨b,off,none⟩ (.int .i64 (casNew x o y))=w':=by
  by_cases hx:x=o
  · have hc':w.cell? ⟨b,off,none⟩=some (.int .i64 o):=by rw [hc,hx]
    have h:=run_call_cas_hit (P:=Try.prog) Try.func135 (by kernel_rfl) (by kernel_rfl) (by kernel_rfl) .i64 (by kernel_rfl) (y:=y) hc' hz
    have Hx:=Lib.hid hx
    clear hx hc hc'
    go_enter Try.func109,Try.ntmps109
    go_wp2
    go_ret
    have hx:=Hx.out
    exact ⟨by first | rfl | simp [hx],by rw [casNew,if_pos hx]⟩
  · have h:=run_call_cas_miss (P:=Try.prog) Try.func135 (by kernel_rfl) (by kernel_rfl) (by kernel_rfl) .i64 (by kernel_rfl) (y:=y) hc hz hx
    have Hx:=Lib.hid hx
    clear hx
    go_enter Try.func109,Try.ntmps109
    go_wp2
    go_ret
    have hx:=Hx.out
    exact ⟨by first | rfl | simp [hx],by rw [casNew,if_neg hx];exact setCell_keep hc⟩
end Go.Proofs.Ytndppafplgilbaa
namespace Go.Proofs.Ytndppafplgilbaa
open Go.RowKit
theorem info_int:(Try.prog.info? 3).map (fun i=>(i.zero,i.size,i.bytes))=some (some (.int .i64 0),1,8):=by kernel_rfl
structure TapeAt (w:World) (base tb:Nat) (v:Value) (ks:List Int):Prop where
  blk:w.heap[tb]?=some (.cells #[v] 189 (0,0))
  row:w.ownsRow base 3 1 v ks.length (ks.map (Value.int .i64))
  ne:v.ownBlock≠some tb
set_option maxHeartbeats 400000 in
theorem tape_pass (base tb:Nat) (v:Value) (ks:List Int) (k:Int) (w:World) (h:TapeAt w base tb v ks) (hks:(ks.length + 1) * 8≤140737488355328) (hbase:base≤w.heap.size) :
    Calls Try.prog 156 #[.pointer (some ⟨tb,0,none⟩),.int .i64 k] w fun e w'=>e=.returned (.tuple #[]) ∧
      ∃ v',TapeAt w' base tb v' (ks ++ [k])∧Turns (fun b=>b=tb∨v.ownBlock=some b) w w'∧(∀ g,v'.ownBlock=some g→v.ownBlock=some g∨w.heap.size≤g):=by
  obtain ⟨i0,hi,hz0,hz1,hz2⟩:=info_parts info_int
  have hc:w.cell? ⟨tb,0,none⟩=some v:=cell_of_heap h.blk (by simp)
  have hlt:=heap_lt h.blk
  have hown:=h.row
  have hne:=h.ne
  have H:=Lib.hid h
  clear h
  go_enter Try.func156,Try.ntmps156
  go_wp2_with (at_builtin;refine wpList_append_one rfl _ _ 22 rfl base 3 i0 (.int .i64 0) 1 8 Try.underlying22 hi hz0 hz1 hz2 rfl (by decide) (by decide) v ks.length (ks.map (Value.int .i64)) [.int .i64 k] rfl hown rfl rfl (by simp [Value.oneCell']) (by omega) hbase ?_)
  intro v' w1 hown1 ht hb
  have hblk1:w1.heap[tb]?=some (.cells #[v] 189 (0,0)):=ht.heap H.out.blk hne
  have hc1:w1.cell? ⟨tb,0,none⟩=some v:=cell_of_heap hblk1 (by simp)
  have hf1:w1.frozen? ⟨tb,0,none⟩=false:=frozen_of_heap hblk1
  have hne1:v'.ownBlock≠some tb:=fun hh=>by
    rcases hb tb hh with h1 | h1
    · exact hne h1
    · omega
  obtain ⟨va,vc,rfl⟩:=row_shape hown1
  have Ht:=Lib.hid ht
  have Hb:=Lib.hid hb
  have Ho:=Lib.hid hown1
  clear ht hb hown1 hown
  go_wp2
  go_end0
  refine ⟨rfl,_,⟨?_,?_,hne1⟩,?_,Hb.out⟩
  · rw [heap_setCell hblk1];simp
  · refine (Turns.setCell (S:=fun b=>b=tb) w1 rfl _).row ?_ (fun b hb2 e=>hne1 (e ▸ hb2))
    have:=Ho.out
    simpa using this
  · exact (Ht.out.mono (fun b _ hb2=>.inr hb2)).trans (Turns.setCell w1 (.inl rfl) _)
theorem pass_nil (k:Int) (w:World):Calls Try.prog 64 #[.nilIface,.int .i64 k] w fun e w'=>e=.returned (.tuple #[])∧w=w':=by
  go_enter Try.func64,Try.ntmps64
  go_wp2
  go_end0
  exact ⟨rfl,rfl⟩
theorem method_tape (a:Addr) (w:World):(method (Try.prog.types.size + 100) 155 (.pointer (some a)) "Pass").run Try.prog w=.ok (156,.pointer (some a)) w:=by kernel_rfl
theorem pass_tape (base tb:Nat) (v:Value) (ks:List Int) (k:Int) (w:World) (h:TapeAt w base tb v ks) (hks:(ks.length + 1) * 8≤140737488355328) (hbase:base≤w.heap.size) :
    Calls Try.prog 64 #[.iface 155 (.pointer (some ⟨tb,0,none⟩)),.int .i64 k] w fun e w'=>e=.returned (.tuple #[]) ∧
      ∃ v',TapeAt w' base tb v' (ks ++ [k])∧Turns (fun b=>b=tb∨v.ownBlock=some b) w w'∧(∀ g,v'.ownBlock=some g→v.ownBlock=some g∨w.heap.size≤g):=by
  have hm:=method_tape ⟨tb,0,none⟩ w
  have hs:Try.prog.types.size + 100=333:=by kernel_rfl
  rw [hs] at hm
  have H:=Lib.hid h
  clear h hs
  go_enter Try.func64,Try.ntmps64
  go_wp2_with (go_at_call 156;refine (tape_pass base tb v ks k _ H.out hks hbase).mono ?_;rintro e w1 ⟨rfl,h1⟩)
  go_end0
  exact ⟨rfl,h1⟩
theorem newnum_any (n:Int) (w:World) :
    Calls Try.prog 30 #[.int .i64 n] w fun e w'=>e=.returned (.pointer (some ⟨w.heap.size,0,none⟩))∧w.alloc (.cells #[.int .i64 n] 139)=w':=by
  have hc:(w.alloc (.cells #[.int .i64 0] 139)).cell? ⟨w.heap.size,0,none⟩=some (.int .i64 0):=cell_of_heap (heap_alloc_new w _) (by simp)
  have hf:(w.alloc (.cells #[.int .i64 0] 139)).frozen? ⟨w.heap.size,0,none⟩=false:=frozen_of_heap (heap_alloc_new w _)
  go_enter Try.func30,Try.ntmps30
  go_wp2_with (go_at_call 63;refine (i64_store _ _ _ _ _ hc hf).mono ?_;rintro e w1 ⟨rfl,rfl⟩)
  go_ret
  exact ⟨rfl,rfl⟩
theorem newtape_any (w:World) :
    Calls Try.prog 82 #[] w fun e w'=>e=.returned (.pointer (some ⟨w.heap.size,0,none⟩))∧w.alloc (.cells #[.slice none 0 0] 189)=w':=by
  go_enter Try.func82,Try.ntmps82
  go_wp2
  go_ret
  exact ⟨rfl,rfl⟩
theorem TapeAt.new (w:World) (base:Nat):TapeAt (w.alloc (.cells #[.slice none 0 0] 189)) base w.heap.size (.slice none 0 0) [] :=
  ⟨heap_alloc_new w _,World.ownsRow_nil _ _ _ _,by simp [Value.ownBlock]⟩
theorem TapeAt.turns {S:Nat→Prop} {w w':World} {base tb:Nat} {v:Value} {ks:List Int} (h:TapeAt w base tb v ks) (ht:Turns S w w') (h1:¬ S tb) (h2:∀ k,v.ownBlock=some k→¬ S k):TapeAt w' base tb v ks :=
  ⟨ht.heap h.blk h1,ht.row h.row h2,h.ne⟩
def Passes (g:Value) (k:Int) (w:World) (R:World→Prop):Prop:=Calls Try.prog 64 #[g,.int .i64 k] w fun e w'=>e=.returned (.tuple #[])∧R w'
theorem num_load (g:Value) (nb:Nat) (x:Int) (w:World) (R:World→Prop) (hp:Passes g 1 w R) (hR:∀ w1,R w1→w1.heap[nb]?=some (.cells #[.int .i64 x] 139 (0,0))) :
    Calls Try.prog 52 #[.pointer (some ⟨nb,0,none⟩),g] w fun e w'=>e=.returned (.int .i64 x)∧R w':=by
  have HR:=Lib.hid hR
  clear hR
  go_enter Try.func52,Try.ntmps52
  go_wp2_with fail
  refine hp.mono ?_
  rintro e w1 ⟨rfl,h1⟩
  have hb:=HR.out w1 h1
  have hc:=cell_of_heap hb (j:=0) rfl
  have H1:=Lib.hid h1
  clear h1
  go_wp2_with (go_at_call 90;refine (i64_load _ _ _ _ hc).mono ?_;rintro e w2 ⟨rfl,rfl⟩)
  go_ret
  exact ⟨rfl,H1.out⟩
theorem num_store (g:Value) (nb:Nat) (x:Int) (d:Int) (w:World) (R:World→Prop) (hp:Passes g 2 w R) (hR:∀ w1,R w1→w1.heap[nb]?=some (.cells #[.int .i64 x] 139 (0,0))) :
    Calls Try.prog 85 #[.pointer (some ⟨nb,0,none⟩),g,.int .i64 d] w fun e w'=>e=.returned (.tuple #[])∧∃ w1,R w1∧w1.setCell ⟨nb,0,none⟩ (.int .i64 d)=w':=by
  have HR:=Lib.hid hR
  clear hR
  go_enter Try.func85,Try.ntmps85
  go_wp2_with fail
  refine hp.mono ?_
  rintro e w1 ⟨rfl,h1⟩
  have hb:=HR.out w1 h1
  have hc:=cell_of_heap hb (j:=0) rfl
  have hf:=frozen_of_heap hb (j:=0)
  have H1:=Lib.hid h1
  clear h1
  go_wp2_with (go_at_call 63;refine (i64_store _ _ _ _ _ hc hf).mono ?_;rintro e w2 ⟨rfl,rfl⟩)
  go_end0
  exact ⟨rfl,w1,H1.out,rfl⟩
theorem num_add (g:Value) (nb:Nat) (x:Int) (d:Int) (w:World) (R:World→Prop) (hp:Passes g 3 w R) (hR:∀ w1,R w1→w1.heap[nb]?=some (.cells #[.int .i64 x] 139 (0,0))) :
    Calls Try.prog 32 #[.pointer (some ⟨nb,0,none⟩),g,.int .i64 d] w fun e w'=>e=.returned (.int .i64 (wrap64 (x + d)))∧∃ w1,R w1∧w1.setCell ⟨nb,0,none⟩ (.int .i64 (wrap64 (x + d)))=w':=by
  have HR:=Lib.hid hR
  clear hR
  go_enter Try.func32,Try.ntmps32
  go_wp2_with fail
  refine hp.mono ?_
  rintro e w1 ⟨rfl,h1⟩
  have hb:=HR.out w1 h1
  have hc:=cell_of_heap hb (j:=0) rfl
  have hf:=frozen_of_heap hb (j:=0)
  have H1:=Lib.hid h1
  clear h1
  go_wp2_with (go_at_call 65;refine (i64_add _ _ _ _ _ hc hf).mono ?_;rintro e w2 ⟨rfl,rfl⟩)
  go_ret
  exact ⟨rfl,w1,H1.out,rfl⟩
theorem num_swap (g:Value) (nb:Nat) (x:Int) (d:Int) (w:World) (R:World→Prop) (hp:Passes g 4 w R) (hR:∀ w1,R w1→w1.heap[nb]?=some (.cells #[.int .i64 x] 139 (0,0))) :
    Calls Try.prog 86 #[.pointer (some ⟨nb,0,none⟩),g,.int .i64 d] w fun e w'=>e=.returned (.int .i64 x)∧∃ w1,R w1∧w1.setCell ⟨nb,0,none⟩ (.int .i64 d)=w':=by
  have HR:=Lib.hid hR
  clear hR
  go_enter Try.func86,Try.ntmps86
  go_wp2_with fail
  refine hp.mono ?_
  rintro e w1 ⟨rfl,h1⟩
  have hb:=HR.out w1 h1
  have hc:=cell_of_heap hb (j:=0) rfl
  have hf:=frozen_of_heap hb (j:=0)
  have H1:=Lib.hid h1
  clear h1
  go_wp2_with (go_at_call 106;refine (i64_swap _ _ _ _ _ hc hf).mono ?_;rintro e w2 ⟨rfl,rfl⟩)
  go_ret
  exact ⟨rfl,w1,H1.out,rfl⟩
theorem num_cas (g:Value) (nb:Nat) (x:Int) (o d:Int) (w:World) (R:World→Prop) (hp:Passes g 5 w R) (hR:∀ w1,R w1→w1.heap[nb]?=some (.cells #[.int .i64 x] 139 (0,0))) :
    Calls Try.prog 89 #[.pointer (some ⟨nb,0,none⟩),g,.int .i64 o,.int .i64 d] w fun e w'=>e=.returned (.bool (x == o))∧∃ w1,R w1∧w1.setCell ⟨nb,0,none⟩ (.int .i64 (casNew x o d))=w':=by
  have HR:=Lib.hid hR
  clear hR
  go_enter Try.func89,Try.ntmps89
  go_wp2_with fail
  refine hp.mono ?_
  rintro e w1 ⟨rfl,h1⟩
  have hb:=HR.out w1 h1
  have hc:=cell_of_heap hb (j:=0) rfl
  have hf:=frozen_of_heap hb (j:=0)
  have H1:=Lib.hid h1
  clear h1
  go_wp2_with (go_at_call 109;refine (i64_cas _ _ _ _ _ _ hc hf).mono ?_;rintro e w2 ⟨rfl,rfl⟩)
  go_ret
  exact ⟨rfl,w1,H1.out,rfl⟩
theorem num_and (g:Value) (nb:Nat) (x:Int) (d:Int) (w:World) (R:World→Prop) (hp:Passes g 6 w R) (hR:∀ w1,R w1→w1.heap[nb]?=some (.cells #[.int .i64 x] 139 (0,0))) :
    Calls Try.prog 87 #[.pointer (some ⟨nb,0,none⟩),g,.int .i64 d] w fun e w'=>e=.returned (.int .i64 x)∧∃ w1,R w1∧w1.setCell ⟨nb,0,none⟩ (.int .i64 (Go.bits .and .i64 x d))=w':=by
  have HR:=Lib.hid hR
  clear hR
  go_enter Try.func87,Try.ntmps87
  go_wp2_with fail
  refine hp.mono ?_
  rintro e w1 ⟨rfl,h1⟩
  have hb:=HR.out w1 h1
  have hc:=cell_of_heap hb (j:=0) rfl
  have hf:=frozen_of_heap hb (j:=0)
  have H1:=Lib.hid h1
  clear h1
  go_wp2_with (go_at_call 107;refine (i64_and _ _ _ _ _ hc hf).mono ?_;rintro e w2 ⟨rfl,rfl⟩)
  go_ret
  exact ⟨rfl,w1,H1.out,rfl⟩
theorem num_or (g:Value) (nb:Nat) (x:Int) (d:Int) (w:World) (R:World→Prop) (hp:Passes g 7 w R) (hR:∀ w1,R w1→w1.heap[nb]?=some (.cells #[.int .i64 x] 139 (0,0))) :
    Calls Try.prog 88 #[.pointer (some ⟨nb,0,none⟩),g,.int .i64 d] w fun e w'=>e=.returned (.int .i64 x)∧∃ w1,R w1∧w1.setCell ⟨nb,0,none⟩ (.int .i64 (Go.bits .or .i64 x d))=w':=by
  have HR:=Lib.hid hR
  clear hR
  go_enter Try.func88,Try.ntmps88
  go_wp2_with fail
  refine hp.mono ?_
  rintro e w1 ⟨rfl,h1⟩
  have hb:=HR.out w1 h1
  have hc:=cell_of_heap hb (j:=0) rfl
  have hf:=frozen_of_heap hb (j:=0)
  have H1:=Lib.hid h1
  clear h1
  go_wp2_with (go_at_call 108;refine (i64_or _ _ _ _ _ hc hf).mono ?_;rintro e w2 ⟨rfl,rfl⟩)
  go_ret
  exact ⟨rfl,w1,H1.out,rfl⟩
end Go.Proofs.Ytndppafplgilbaa
namespace Go.Proofs.Ytndppafplgilbaa
open Go.RowKit
def bitOf (b:Bool):Int:=if b then 1 else 0
def numAns (k x a:Int):Int :=
  if k=2 then 0 else if k=3 then wrap64 (x + a) else if k=5 then bitOf (x == a) else x
def numNew (k x a b:Int):Int :=
  if k=2 then a else if k=3 then wrap64 (x + a) else if k=4 then a else if k=5 then casNew x a b else if k=6 then Go.bits .and .i64 x a else if k=7 then Go.bits .or .i64 x a else x
structure A4 where
  k:Int
  at_:Int
  a:Int
  b:Int
def known7 (k:Int):Bool:=decide (1≤k∧k≤7)
def checkNums (cells:Int):List A4→Int
  | []=>0
  | x :: r=>if known7 x.k=false then 5 else if x.at_ < 0∨cells≤x.at_ then 1 else checkNums cells r
def ActsIn (w:World) (a:Option Addr) (l:List A4):Prop :=
  ∀ (j:Nat) (h:j < l.length),∃ b off,a=some ⟨b,off,none⟩∧w.cell? ⟨b,off + j * 4,none⟩=some (.int .i64 l[j].k)∧w.cell? ⟨b,off + j * 4 + 1,none⟩=some (.int .i64 l[j].at_) ∧
    w.cell? ⟨b,off + j * 4 + 2,none⟩=some (.int .i64 l[j].a)∧w.cell? ⟨b,off + j * 4 + 3,none⟩=some (.int .i64 l[j].b)
theorem cell_of_block {w w':World} {b:Nat} (h:w'.heap[b]?=w.heap[b]?) (o:Nat):w'.cell? ⟨b,o,none⟩=w.cell? ⟨b,o,none⟩:=World.cell?_of_block (a:=⟨b,o,none⟩) h
theorem ActsIn.kept {w w':World} {a:Option Addr} {l:List A4} (h:ActsIn w a l) (hk:∀ b off,a=some ⟨b,off,none⟩→b < w.heap.size→w'.heap[b]?=w.heap[b]?):ActsIn w' a l:=by
  intro j hj
  obtain ⟨b,off,e,h1,h2,h3,h4⟩:=h j hj
  have hb:w'.heap[b]?=w.heap[b]?:=hk b off e (World.block_lt_of_cell? w ⟨b,off + j * 4,none⟩ h1)
  exact ⟨b,off,e,by rw [cell_of_block hb];exact h1,by rw [cell_of_block hb];exact h2,by rw [cell_of_block hb];exact h3,by rw [cell_of_block hb];exact h4⟩
theorem ActsIn.below {w w':World} {a:Option Addr} {l:List A4} (h:ActsIn w a l) (hb:Below w.heap.size w w'):ActsIn w' a l :=
  h.kept fun b _ _ hlt=>hb.block b hlt
theorem checkNums_cons (cells:Int) (l:List A4) (j:Nat) (h:j < l.length):checkNums cells (l.drop j)=if known7 l[j].k=false then 5 else if l[j].at_ < 0∨cells≤l[j].at_ then 1 else checkNums cells (l.drop (j + 1)):=by
  rw [List.drop_eq_getElem_cons h]
  rfl
def numStep (p:List Int × List Int) (x:A4):List Int × List Int :=
  (p.1 ++ [numAns x.k (p.2.getD x.at_.toNat 0) x.a],p.2.set x.at_.toNat (numNew x.k (p.2.getD x.at_.toNat 0) x.a x.b))
def numTo (cells:List Int) (l:List A4):List Int × List Int:=l.foldl numStep ([],cells)
theorem numStep_len (p:List Int × List Int) (x:A4):(numStep p x).1.length=p.1.length + 1∧(numStep p x).2.length=p.2.length:=by simp [numStep]
theorem numTo_len (cells:List Int) (l:List A4):(numTo cells l).1.length=l.length∧(numTo cells l).2.length=cells.length:=by
  suffices h:∀ (l:List A4) (p:List Int × List Int),(l.foldl numStep p).1.length=p.1.length + l.length∧(l.foldl numStep p).2.length=p.2.length by
    have:=h l ([],cells)
    simpa [numTo] using this
  intro l
  induction l with
  | nil=>intro p;simp
  | cons x r ih =>
    intro p
    have h1:=ih (numStep p x)
    have h2:=numStep_len p x
    simp only [List.foldl_cons,List.length_cons]
    omega
def numsErr (cells:List Int) (l:List A4):Int:=if 64 < cells.length∨1000 < l.length then 2 else checkNums cells.length l
def numsAns (cells:List Int) (l:List A4):List Int:=if numsErr cells l=0 then (numTo cells l).1 else []
def numsEnd (cells:List Int) (l:List A4):List Int:=if numsErr cells l=0 then (numTo cells l).2 else []
def numsKinds (cells:List Int) (l:List A4):List Int:=if numsErr cells l=0 then l.map (·.k) else []
theorem checkNums_ok (cells:Int) (l:List A4) (h:checkNums cells l=0):∀ x∈l,1≤x.k∧x.k≤7∧0≤x.at_∧x.at_ < cells:=by
  induction l with
  | nil=>intro x hx;cases hx
  | cons y r ih =>
    unfold checkNums at h
    split at h
    · simp at h
    · rename_i hk
      split at h
      · simp at h
      · rename_i ha
        have hk':1≤y.k∧y.k≤7:=by simpa [known7] using hk
        intro x hx
        cases hx with
        | head=>exact ⟨hk'.1,hk'.2,by omega,by omega⟩
        | tail _ hm=>exact ih h x hm
def IntsIn (w:World) (a:Option Addr) (l:List Int):Prop :=
  ∀ (j:Nat) (h:j < l.length),∃ b off,a=some ⟨b,off,none⟩∧w.cell? ⟨b,off + j,none⟩=some (.int .i64 l[j])
theorem IntsIn.kept {w w':World} {a:Option Addr} {l:List Int} (h:IntsIn w a l) (hk:∀ b off,a=some ⟨b,off,none⟩→b < w.heap.size→w'.heap[b]?=w.heap[b]?):IntsIn w' a l:=by
  intro j hj
  obtain ⟨b,off,e,h1⟩:=h j hj
  have hb:w'.heap[b]?=w.heap[b]?:=hk b off e (World.block_lt_of_cell? w ⟨b,off + j,none⟩ h1)
  exact ⟨b,off,e,by rw [cell_of_block hb];exact h1⟩
theorem IntsIn.below {w w':World} {a:Option Addr} {l:List Int} (h:IntsIn w a l) (hb:Below w.heap.size w w'):IntsIn w' a l :=
  h.kept fun b _ _ hlt=>hb.block b hlt
abbrev RowI (w:World) (B:Nat) (v:Value) (xs:List Int):Prop:=w.ownsRow B 3 1 v xs.length (xs.map (Value.int .i64))
theorem RowI.intsIn {w:World} {B:Nat} {v:Value} {xs:List Int} (h:RowI w B v xs):∃ a c,v=.slice a xs.length c∧IntsIn w a xs:=by
  obtain ⟨a,c,rfl⟩:=row_shape h
  refine ⟨a,c,rfl,fun j hj=>?_⟩
  rcases h.2 with ⟨hv,hn⟩ | ⟨g,cap,cur,hv,_⟩
  · omega
  · injection hv with ha hb hc
    subst ha
    refine ⟨g,0,rfl,?_⟩
    have:=h.cells (g:=g) (by simp [Value.ownBlock]) j (.int .i64 xs[j]) (by simp [hj])
    have hadd:(⟨g,0,none⟩:Addr).add j=⟨g,j,none⟩:=by unfold Addr.add;split <;> simp_all
    rw [hadd] at this
    rw [Nat.zero_add]
    exact this
def mkRow (z:Value) (n:Nat):Array Value:=Array.replicate n z
theorem mkRow_size (z:Value) (n:Nat):(mkRow z n).size=n:=by simp [mkRow]
theorem mkRow_get (z:Value) (n i:Nat) (h:i < n):(mkRow z n)[i]?=some z:=by simp [mkRow,h]
theorem madeCells_one (z:Value) (n:Nat):madeCells #[z] n=mkRow z n:=by
  apply Array.ext
  · simp [madeCells,mkRow]
  · intro i h1 h2
    simp [madeCells,mkRow,Nat.mod_one]
theorem run_makeN {P:Program} (t e:TypeId) (z:Value) (bytes:Nat) (ht:P.underlying t=some (.slice e)) (hinfo:(P.info? e).map (fun i=>(i.zero,i.size,i.bytes))=some (some z,1,bytes)) (hz:z.cells=#[z])
    (n:Nat) (hb:bytes * n≤281474976710656) (h63:n≤9223372036854775807) (w:World) :
    (Instr.makeSlice t (.int .i64 (n:Int)) (.int .i64 (n:Int))).run P w=.ok (.slice (some ⟨w.heap.size,0,none⟩) n n) (w.alloc (.cells (mkRow z n) e)):=by
  obtain ⟨i,hi,h0,h1,h2⟩:=info_parts hinfo
  have hr:=run_make (P:=P) w t e i z ht hi h0 .i64 .i64 n n (by omega) (Int.le_refl _) (by rw [h2];omega) (by omega)
  rw [hr,h1,hz,Nat.mul_one]
  simp only [Int.toNat_natCast,madeCells_one]
end Go.Proofs.Ytndppafplgilbaa
namespace Go.Proofs.Ytndppafplgilbaa
open Go.RowKit
theorem bit_any (v:Bool) (w:World):Calls Try.prog 104 #[.bool v] w fun e w'=>e=.returned (.int .i64 (bitOf v))∧w=w':=by
  cases v
  · go_enter Try.func104,Try.ntmps104
    go_wp2
    go_ret
    exact ⟨rfl,rfl⟩
  · go_enter Try.func104,Try.ntmps104
    go_wp2
    go_ret
    exact ⟨rfl,rfl⟩
abbrev actV (k at_ a b:Int):Value:=.agg #[.int .i64 k,.int .i64 at_,.int .i64 a,.int .i64 b]
set_option maxHeartbeats 400000 in
theorem do_load (g:Value) (nb:Nat) (x at_ a b:Int) (w:World) (R:World→Prop) (hp:Passes g 1 (w.alloc (.cells #[.int .i64 1,.int .i64 at_,.int .i64 a,.int .i64 b] 103)) R)
    (hR:∀ w1,R w1→w1.heap[nb]?=some (.cells #[.int .i64 x] 139 (0,0))) :
    Calls Try.prog 83 #[.pointer (some ⟨nb,0,none⟩),g,actV 1 at_ a b] w fun e w'=>e=.returned (.int .i64 (numAns 1 x a))∧∃ w1,R w1∧w1.setCell ⟨nb,0,none⟩ (.int .i64 (numNew 1 x a b))=w':=by
  have hR2:=Lib.hid hR
  go_enter Try.func83,Try.ntmps83
  go_wp2_with (go_at_call 52;refine (num_load g nb x _ R hp hR).mono ?_;rintro e w1 ⟨rfl,h1⟩)
  go_ret
  exact ⟨rfl,w1,h1,setCell_keep (cell_of_heap (hR2.out w1 h1) (j:=0) rfl)⟩
set_option maxHeartbeats 400000 in
theorem do_store (g:Value) (nb:Nat) (x at_ a b:Int) (w:World) (R:World→Prop) (hp:Passes g 2 (w.alloc (.cells #[.int .i64 2,.int .i64 at_,.int .i64 a,.int .i64 b] 103)) R)
    (hR:∀ w1,R w1→w1.heap[nb]?=some (.cells #[.int .i64 x] 139 (0,0))) :
    Calls Try.prog 83 #[.pointer (some ⟨nb,0,none⟩),g,actV 2 at_ a b] w fun e w'=>e=.returned (.int .i64 (numAns 2 x a))∧∃ w1,R w1∧w1.setCell ⟨nb,0,none⟩ (.int .i64 (numNew 2 x a b))=w':=by
  go_enter Try.func83,Try.ntmps83
  go_wp2_with (go_at_call 85;refine (num_store g nb x a _ R hp hR).mono ?_;rintro e w1 ⟨rfl,w2,h2,rfl⟩)
  go_ret
  exact ⟨rfl,w2,h2,rfl⟩
set_option maxHeartbeats 400000 in
theorem do_add (g:Value) (nb:Nat) (x at_ a b:Int) (w:World) (R:World→Prop) (hp:Passes g 3 (w.alloc (.cells #[.int .i64 3,.int .i64 at_,.int .i64 a,.int .i64 b] 103)) R)
    (hR:∀ w1,R w1→w1.heap[nb]?=some (.cells #[.int .i64 x] 139 (0,0))) :
    Calls Try.prog 83 #[.pointer (some ⟨nb,0,none⟩),g,actV 3 at_ a b] w fun e w'=>e=.returned (.int .i64 (numAns 3 x a))∧∃ w1,R w1∧w1.setCell ⟨nb,0,none⟩ (.int .i64 (numNew 3 x a b))=w':=by
  go_enter Try.func83,Try.ntmps83
  go_wp2_with (go_at_call 32;refine (num_add g nb x a _ R hp hR).mono ?_;rintro e w1 ⟨rfl,w2,h2,rfl⟩)
  go_ret
  exact ⟨rfl,w2,h2,rfl⟩
set_option maxHeartbeats 400000 in
theorem do_swap (g:Value) (nb:Nat) (x at_ a b:Int) (w:World) (R:World→Prop) (hp:Passes g 4 (w.alloc (.cells #[.int .i64 4,.int .i64 at_,.int .i64 a,.int .i64 b] 103)) R)
    (hR:∀ w1,R w1→w1.heap[nb]?=some (.cells #[.int .i64 x] 139 (0,0))) :
    Calls Try.prog 83 #[.pointer (some ⟨nb,0,none⟩),g,actV 4 at_ a b] w fun e w'=>e=.returned (.int .i64 (numAns 4 x a))∧∃ w1,R w1∧w1.setCell ⟨nb,0,none⟩ (.int .i64 (numNew 4 x a b))=w':=by
  go_enter Try.func83,Try.ntmps83
  go_wp2_with (go_at_call 86;refine (num_swap g nb x a _ R hp hR).mono ?_;rintro e w1 ⟨rfl,w2,h2,rfl⟩)
  go_ret
  exact ⟨rfl,w2,h2,rfl⟩
set_option maxHeartbeats 400000 in
theorem do_cas (g:Value) (nb:Nat) (x at_ a b:Int) (w:World) (R:World→Prop) (hp:Passes g 5 (w.alloc (.cells #[.int .i64 5,.int .i64 at_,.int .i64 a,.int .i64 b] 103)) R)
    (hR:∀ w1,R w1→w1.heap[nb]?=some (.cells #[.int .i64 x] 139 (0,0))) :
    Calls Try.prog 83 #[.pointer (some ⟨nb,0,none⟩),g,actV 5 at_ a b] w fun e w'=>e=.returned (.int .i64 (numAns 5 x a))∧∃ w1,R w1∧w1.setCell ⟨nb,0,none⟩ (.int .i64 (numNew 5 x a b))=w':=by
  go_enter Try.func83,Try.ntmps83
  go_wp2_with (first | (go_at_call 89;refine (num_cas g nb x a b _ R hp hR).mono ?_;rintro e w1 ⟨rfl,w2,h2,rfl⟩) | (go_at_call 104;refine (bit_any _ _).mono ?_;rintro e w3 ⟨rfl,rfl⟩))
  go_ret
  exact ⟨rfl,w2,h2,rfl⟩
set_option maxHeartbeats 400000 in
theorem do_and (g:Value) (nb:Nat) (x at_ a b:Int) (w:World) (R:World→Prop) (hp:Passes g 6 (w.alloc (.cells #[.int .i64 6,.int .i64 at_,.int .i64 a,.int .i64 b] 103)) R)
    (hR:∀ w1,R w1→w1.heap[nb]?=some (.cells #[.int .i64 x] 139 (0,0))) :
    Calls Try.prog 83 #[.pointer (some ⟨nb,0,none⟩),g,actV 6 at_ a b] w fun e w'=>e=.returned (.int .i64 (numAns 6 x a))∧∃ w1,R w1∧w1.setCell ⟨nb,0,none⟩ (.int .i64 (numNew 6 x a b))=w':=by
  go_enter Try.func83,Try.ntmps83
  go_wp2_with (go_at_call 87;refine (num_and g nb x a _ R hp hR).mono ?_;rintro e w1 ⟨rfl,w2,h2,rfl⟩)
  go_ret
  exact ⟨rfl,w2,h2,rfl⟩
set_option maxHeartbeats 400000 in
theorem do_or (g:Value) (nb:Nat) (x at_ a b:Int) (w:World) (R:World→Prop) (hp:Passes g 7 (w.alloc (.cells #[.int .i64 7,.int .i64 at_,.int .i64 a,.int .i64 b] 103)) R)
    (hR:∀ w1,R w1→w1.heap[nb]?=some (.cells #[.int .i64 x] 139 (0,0))) :
    Calls Try.prog 83 #[.pointer (some ⟨nb,0,none⟩),g,actV 7 at_ a b] w fun e w'=>e=.returned (.int .i64 (numAns 7 x a))∧∃ w1,R w1∧w1.setCell ⟨nb,0,none⟩ (.int .i64 (numNew 7 x a b))=w':=by
  go_enter Try.func83,Try.ntmps83
  go_wp2_with (go_at_call 88;refine (num_or g nb x a _ R hp hR).mono ?_;rintro e w1 ⟨rfl,w2,h2,rfl⟩)
  go_ret
  exact ⟨rfl,w2,h2,rfl⟩
theorem do_any (g:Value) (nb:Nat) (x k at_ a b:Int) (hk:1≤k∧k≤7) (w:World) (R:World→Prop) (hp:Passes g k (w.alloc (.cells #[.int .i64 k,.int .i64 at_,.int .i64 a,.int .i64 b] 103)) R)
    (hR:∀ w1,R w1→w1.heap[nb]?=some (.cells #[.int .i64 x] 139 (0,0))) :
    Calls Try.prog 83 #[.pointer (some ⟨nb,0,none⟩),g,actV k at_ a b] w fun e w'=>e=.returned (.int .i64 (numAns k x a))∧∃ w1,R w1∧w1.setCell ⟨nb,0,none⟩ (.int .i64 (numNew k x a b))=w':=by
  obtain rfl | rfl | rfl | rfl | rfl | rfl | rfl:k=1∨k=2∨k=3∨k=4∨k=5∨k=6∨k=7:=by omega
  · exact do_load g nb x at_ a b w R hp hR
  · exact do_store g nb x at_ a b w R hp hR
  · exact do_add g nb x at_ a b w R hp hR
  · exact do_swap g nb x at_ a b w R hp hR
  · exact do_cas g nb x at_ a b w R hp hR
  · exact do_and g nb x at_ a b w R hp hR
  · exact do_or g nb x at_ a b w R hp hR
end Go.Proofs.Ytndppafplgilbaa
namespace Go.Proofs.Ytndppafplgilbaa
open Go.RowKit
theorem known_any (k:Int) (w:World):Calls Try.prog 79 #[.int .i64 k] w fun e w'=>e=.returned (.bool (known7 k))∧w=w':=by
  by_cases h1:1≤k
  · by_cases h2:k≤7
    · have e:known7 k=true:=by simp [known7,h1,h2]
      have E:=Lib.hid e
      clear e
      go_enter Try.func79,Try.ntmps79
      go_wp2
      go_ret
      exact ⟨by rw [E.out];rfl,rfl⟩
    · have e:known7 k=false:=by simp [known7];omega
      have E:=Lib.hid e
      clear e
      have h2':decide (k≤7)=false:=by simp;omega
      go_enter Try.func79,Try.ntmps79
      go_wp2
      go_ret
      exact ⟨by rw [E.out];rfl,rfl⟩
  · have e:known7 k=false:=by simp [known7];omega
    have E:=Lib.hid e
    clear e
    have h2':decide (1≤k)=false:=by simp;omega
    go_enter Try.func79,Try.ntmps79
    go_wp2
    go_ret
    exact ⟨by rw [E.out];rfl,rfl⟩
theorem fits_any (a:Value) (w:World) (k at_ x y:Int) (ha:a=actV k at_ x y):Calls Try.prog 81 #[a] w fun e w'=>e=.returned (.bool true)∧w.alloc (.cells #[.int .i64 k,.int .i64 at_,.int .i64 x,.int .i64 y] 103)=w':=by
  subst ha
  go_enter Try.func81,Try.ntmps81
  go_wp2
  go_ret
  exact ⟨rfl,rfl⟩
set_option maxHeartbeats 1000000 in
theorem check_any (cells:Int) (a:Option Addr) (cap:Nat) (l:List A4) (w:World) (hn:l.length≤1000) (hr:ActsIn w a l) :
    Calls Try.prog 80 #[.int .i64 cells,.slice a l.length cap,.func (.func 79) #[] #[],.func (.func 81) #[] #[]] w fun e w'=>e=.returned (.int .i64 (checkNums cells l))∧Below w.heap.size w w':=by
  have Hr:=Lib.hid hr
  clear hr
  go_enter Try.func80,Try.ntmps80
  go_wp2_with fail
  go_loopw [13] (fun i wr=>∃ j:Nat,j≤l.length∧i=.int .i64 j∧Below w.heap.size w wr∧Hid (checkNums cells (l.drop j)=checkNums cells l)) (fun i _=>l.length - (intOf i).toNat)
  case atStart=>exact ⟨0,Nat.zero_le _,rfl,Below.refl _ _,rfl⟩
  case round =>
    obtain ⟨j,hj,rfl,hb,hspec⟩:=hrel
    by_cases hlt:j < l.length
    · obtain ⟨b,off,rfl,h1,h2,h3,h4⟩:=(Hr.out.below hb) j hlt
      have Hs:=Lib.hid ((checkNums_cons cells l j hlt).symm.trans hspec.out)
      have Hb:=Lib.hid hb
      clear hspec hb
      by_cases hk:known7 l[j].k=true
      · go_wp2_with (first | (go_at_call 79;refine (known_any _ _).mono ?_;rintro e w1 ⟨rfl,rfl⟩) | (go_at_call 81;refine (fits_any _ _ _ _ _ _ rfl).mono ?_;rintro e w1 ⟨rfl,rfl⟩))
        · go_roundw
          case rel=>exact ⟨j + 1,by omega,by go_num,(((Hb.out.alloc Hb.out.size _).alloc (by have:=Hb.out.size;simp;omega) _)),by have:=Hs.out;rw [hk,if_neg (by simp),if_neg (by omega)] at this;exact this⟩
          case measure=>simp [intOf];omega
        · go_ret
          exact ⟨by have:=Hs.out;rw [hk,if_neg (by simp),if_pos (by omega)] at this;rw [← this];rfl,Hb.out.alloc Hb.out.size _⟩
        · go_ret
          exact ⟨by have:=Hs.out;rw [hk,if_neg (by simp),if_pos (by omega)] at this;rw [← this];rfl,Hb.out.alloc Hb.out.size _⟩
      · have hk2:known7 l[j].k=false:=by simpa using hk
        clear hk
        go_wp2_with (first | (go_at_call 79;refine (known_any _ _).mono ?_;rintro e w1 ⟨rfl,rfl⟩))
        go_ret
        exact ⟨by have:=Hs.out;rw [if_pos hk2] at this;rw [← this];rfl,Hb.out.alloc Hb.out.size _⟩
    · go_wp2
      go_ret
      have he:l.drop j=[]:=List.drop_eq_nil_of_le (by omega)
      have hs:=hspec.out
      rw [he] at hs
      exact ⟨by rw [← hs];rfl,hb⟩
end Go.Proofs.Ytndppafplgilbaa
namespace Go.Proofs.Ytndppafplgilbaa
open Go.RowKit
set_option maxHeartbeats 400000 in
theorem clone_any (base:Nat) (v:Value) (xs:List Int) (w:World) (hr:RowI w base v xs) (hlen:xs.length * 8≤140737488355328) :
    Calls Try.prog 105 #[v] w fun e w'=>∃ v',e=.returned v'∧RowI w' w.heap.size v' xs∧Below w.heap.size w w':=by
  obtain ⟨i0,hi,hz0,hz1,hz2⟩:=info_parts info_int
  rcases hr.2 with ⟨rfl,hn⟩ | ⟨g,cap,cur,rfl,hb,hg,h1,h2,h3,h4⟩
  · have hx:xs=[]:=List.eq_nil_of_length_eq_zero hn
    subst hx
    have he:=fun w=>Lib.run_eql_slice_nil (P:=Try.prog) w 22 3 none 0 0 0 0 Try.underlying22
    go_enter Try.func105,Try.ntmps105
    go_wp2
    go_ret
    exact ⟨_,rfl,World.ownsRow_nil _ _ _ _,Below.refl _ _⟩
  · have he:=fun w=>Lib.run_eql_slice_nil (P:=Try.prog) w 22 3 (some ⟨g,0,none⟩) xs.length cap 0 0 Try.underlying22
    have hlt:=heap_lt hg
    have hnews:∀ j u,(xs.map (Value.int .i64))[j]?=some u→(w.alloc (.cells #[] 3)).cell? ((⟨g,0,none⟩:Addr).add j)=some u:=fun j u hu=>by
      have h5:=hr.cells (g:=g) rfl j u hu
      have hadd:(⟨g,0,none⟩:Addr).add j=⟨g,j,none⟩:=by unfold Addr.add;split <;> simp_all
      rw [hadd] at h5 ⊢
      rw [World.cell?_alloc_past _ _ _ hlt]
      exact h5
    have hm0:(w.alloc (.cells #[] 3)).ownsRow w.heap.size 3 1 (.slice (some ⟨w.heap.size,0,none⟩) 0 0) 0 []:=World.ownsRow_made w #[] 0 (Nat.le_refl _) (Nat.zero_le _) rfl
    have H1:=Lib.hid hnews
    have H2:=Lib.hid hm0
    clear hnews hm0 hg h1 h2 h3 h4
    go_enter Try.func105,Try.ntmps105
    go_wp2_with (at_builtin;refine wpList_append_own _ rfl _ _ 22 rfl w.heap.size 3 i0 (.int .i64 0) 1 8 Try.underlying22 hi hz0 hz1 hz2 rfl (by decide) _ 0 [] rfl H2.out ⟨g,0,none⟩ xs.length cap (xs.map (Value.int .i64)) rfl (by simp) H1.out (ints_oneCell _ _) (by unfold maxLen;omega) (by omega) (by simp) ?_)
    intro v' w1 hown1 hgr _
    try rw [Nat.zero_add,List.nil_append] at hown1
    have Ho:=Lib.hid hown1
    have Hg:=Lib.hid hgr
    clear hown1 hgr
    go_wp2
    go_ret
    refine ⟨_,rfl,Ho.out,((Below.refl _ _).alloc (Nat.le_refl _) _).grown Hg.out (by simp) (fun k hk=>?_)⟩
    simp [Value.ownBlock] at hk
    omega
theorem kinds_any (base tb:Nat) (v:Value) (ks:List Int) (w:World) (h:TapeAt w base tb v ks) (hlen:ks.length * 8≤140737488355328) :
    Calls Try.prog 84 #[.pointer (some ⟨tb,0,none⟩)] w fun e w'=>∃ v',e=.returned v'∧RowI w' w.heap.size v' ks∧Below w.heap.size w w':=by
  have hc:w.cell? ⟨tb,0,none⟩=some v:=cell_of_heap h.blk (by simp)
  have Hrow:=Lib.hid h.row
  clear h
  go_enter Try.func84,Try.ntmps84
  go_wp2_with (go_at_call 105;refine (clone_any base _ ks _ Hrow.out (by omega)).mono ?_;rintro e w1 ⟨v',rfl,h1,h2⟩)
  go_ret
  exact ⟨_,rfl,h1,h2⟩
end Go.Proofs.Ytndppafplgilbaa
