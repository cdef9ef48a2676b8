/-
  larchlaw04.BatonThins returns true for every input. No condition. (Part 6 of 49; joined by program.)
-/
import Derived.Test.YtndppafplgilbaaL01
import Derived.Deep.RegionHeld3
import Derived.Deep.AppendLies
set_option linter.unusedVariables false
set_option linter.unusedSimpArgs false
set_option linter.unusedSectionVars false
set_option maxRecDepth 100000
namespace Go.Proofs.Ytndppafplgilbaa
open Go.RowKit
theorem do_tape (base nb tb:Nat) (tv:Value) (ks:List Int) (x k at_ a b:Int) (w:World) (hk:1≤k∧k≤7) (ht:TapeAt w base tb tv ks) (hn:w.heap[nb]?=some (.cells #[.int .i64 x] 139 (0,0)))
    (hks:(ks.length + 1) * 8≤140737488355328) (hbase:base≤w.heap.size) (hne:tv.ownBlock≠some nb) :
    Calls Try.prog 83 #[.pointer (some ⟨nb,0,none⟩),.iface 155 (.pointer (some ⟨tb,0,none⟩)),actV k at_ a b] w fun e w'=>e=.returned (.int .i64 (numAns k x a)) ∧
      ∃ tv',TapeAt w' base tb tv' (ks ++ [k])∧w'.heap[nb]?=some (.cells #[.int .i64 (numNew k x a b)] 139 (0,0))∧Turns (fun i=>i=nb∨i=tb∨tv.ownBlock=some i) w w'∧(∀ g,tv'.ownBlock=some g→tv.ownBlock=some g∨w.heap.size≤g):=by
  have hlt:=heap_lt hn
  have hnt:nb≠tb:=fun h=>by
    have h1:=ht.blk
    rw [← h,hn] at h1
    simp at h1
  have ht1:TapeAt (w.alloc (.cells #[.int .i64 k,.int .i64 at_,.int .i64 a,.int .i64 b] 103)) base tb tv ks:=ht.turns (Turns.alloc (fun _=>False) w _) (fun h=>h) (fun _ _ h=>h)
  have hn1:(w.alloc (.cells #[.int .i64 k,.int .i64 at_,.int .i64 a,.int .i64 b] 103)).heap[nb]?=some (.cells #[.int .i64 x] 139 (0,0)):=(Turns.alloc (fun _=>False) w _).heap hn (fun h=>h)
  have hp:=pass_tape base tb tv ks k _ ht1 hks (by simp;omega)
  refine (do_any _ nb x k at_ a b hk w _ hp ?_).mono ?_
  · rintro w1 ⟨v',h1,h2,h3⟩
    refine h2.heap hn1 (fun h=>?_)
    rcases h with h | h
    · exact hnt h
    · exact hne h
  · rintro e w' ⟨he,w1,⟨v',h1,h2,h3⟩,rfl⟩
    have hn2:w1.heap[nb]?=some (.cells #[.int .i64 x] 139 (0,0)):=h2.heap hn1 (fun h=>by rcases h with h | h;exact hnt h;exact hne h)
    refine ⟨he,v',?_,?_,?_,?_⟩
    · refine h1.turns (Turns.setCell (S:=fun i=>i=nb) w1 rfl _) (fun h=>hnt h.symm) (fun k hk e=>?_)
      subst e
      rcases h3 _ hk with h4 | h4
      · exact hne h4
      · simp at h4;omega
    · rw [heap_setCell hn2];simp
    · exact ((Turns.alloc _ w _).trans (h2.mono (fun i _ hi=>.inr hi))).trans (Turns.setCell w1 (.inl rfl) _)
    · intro g hg
      rcases h3 g hg with h4 | h4
      · exact .inl h4
      · exact .inr (by simp at h4;omega)
structure NumRow (w:World) (rb n j:Nat) (vals:List Int):Prop where
  row:∃ c:Array Value,w.heap[rb]?=some (.cells c 72 (0,0))∧c.size=n∧∀ i,i < j→c[i]?=some (.pointer (some ⟨rb + 1 + i,0,none⟩))
  nums:∀ (i:Nat) (h:i < vals.length),i < j→w.heap[rb + 1 + i]?=some (.cells #[.int .i64 vals[i]] 139 (0,0))
theorem NumRow.turns {S:Nat→Prop} {w w':World} {rb n j:Nat} {vals:List Int} (h:NumRow w rb n j vals) (ht:Turns S w w') (hS:∀ i,i≤j→¬ S (rb + i)):NumRow w' rb n j vals:=by
  obtain ⟨c,h1,h2,h3⟩:=h.row
  refine ⟨⟨c,ht.heap h1 (hS 0 (Nat.zero_le _)),h2,h3⟩,fun i hi hj=>ht.heap (h.nums i hi hj) ?_⟩
  have:=hS (i + 1) (by omega)
  rwa [show rb + (i + 1)=rb + 1 + i by omega] at this
theorem NumRow.cell {w:World} {rb n j:Nat} {vals:List Int} (h:NumRow w rb n j vals) {i:Nat} (hi:i < j):w.cell? ⟨rb,i,none⟩=some (.pointer (some ⟨rb + 1 + i,0,none⟩)):=by
  obtain ⟨c,h1,h2,h3⟩:=h.row
  exact cell_of_heap h1 (h3 i hi)
theorem info_ptr:(Try.prog.info? 72).map (fun i=>(i.zero,i.size,i.bytes))=some (some (.pointer none),1,8):=by kernel_rfl
def NumsPost (w:World) (cells:List Int) (acts:List A4) (e:Ending) (w':World):Prop :=
  ∃ v1 v2 v3,e=.returned (.tuple #[v1,v2,v3,.int .i64 (numsErr cells acts)])∧RowI w' w.heap.size v1 (numsAns cells acts)∧RowI w' w.heap.size v2 (numsEnd cells acts)∧RowI w' w.heap.size v3 (numsKinds cells acts) ∧
    Below w.heap.size w w'∧(∀ g,v1.ownBlock=some g→v2.ownBlock≠some g∧v3.ownBlock≠some g)∧(∀ g,v2.ownBlock=some g→v3.ownBlock≠some g)
theorem nums_none (w:World) (cells:List Int) (acts:List A4) (w':World) (h:numsErr cells acts≠0) (hb:Below w.heap.size w w'):NumsPost w cells acts (.returned (.tuple #[.slice none 0 0,.slice none 0 0,.slice none 0 0,.int .i64 (numsErr cells acts)])) w':=by
  refine ⟨_,_,_,rfl,?_,?_,?_,hb,?_,?_⟩
  · rw [numsAns,if_neg h];exact World.ownsRow_nil _ _ _ _
  · rw [numsEnd,if_neg h];exact World.ownsRow_nil _ _ _ _
  · rw [numsKinds,if_neg h];exact World.ownsRow_nil _ _ _ _
  · simp [Value.ownBlock]
  · simp [Value.ownBlock]
set_option maxHeartbeats 400000 in
theorem nums_big (ca aa:Option Addr) (cc ac:Nat) (cells:List Int) (acts:List A4) (w:World) (h:64 < cells.length∨1000 < acts.length) :
    Calls Try.prog 49 #[.slice ca cells.length cc,.slice aa acts.length ac] w (NumsPost w cells acts):=by
  have he:numsErr cells acts=2:=by rw [numsErr,if_pos h]
  have hp:=nums_none w cells acts w (by rw [he];decide) (Below.refl _ _)
  rw [he] at hp
  have Hp:=Lib.hid hp
  clear hp he
  by_cases h1:64 < cells.length
  · clear h
    go_enter Try.func49,Try.ntmps49
    go_wp2
    exact bodyPost_ret (v:=.tuple #[.slice none 0 0,.slice none 0 0,.slice none 0 0,.int .i64 2]) (by simp [results,Try.results49,go_sem]) rfl Hp.out
  · have h2:1000 < acts.length:=by omega
    clear h
    have h3:decide ((64:Int) < (cells.length:Int))=false:=by simp;omega
    have h4:(1000:Int) < (acts.length:Int):=by omega
    clear h1
    go_enter Try.func49,Try.ntmps49
    go_wp2
    exact bodyPost_ret (v:=.tuple #[.slice none 0 0,.slice none 0 0,.slice none 0 0,.int .i64 2]) (by simp [results,Try.results49,go_sem]) rfl Hp.out
set_option maxHeartbeats 400000 in
theorem nums_bad (ca aa:Option Addr) (cc ac:Nat) (cells:List Int) (acts:List A4) (w:World) (h1:cells.length≤64) (h2:acts.length≤1000) (hne:checkNums cells.length acts≠0) (hr:ActsIn w aa acts) :
    Calls Try.prog 49 #[.slice ca cells.length cc,.slice aa acts.length ac] w (NumsPost w cells acts):=by
  have he:numsErr cells acts=checkNums cells.length acts:=by rw [numsErr,if_neg (by omega)]
  have hp:=fun w'=>nums_none w cells acts w' (by rw [he];exact hne)
  rw [he] at hp
  have Hp:=Lib.hid hp
  clear hp he
  have hne':(checkNums cells.length acts != 0)=true:=by rw [bne_iff_ne];exact hne
  have h3:decide ((64:Int) < (cells.length:Int))=false:=by simp;omega
  have h4:decide ((1000:Int) < (acts.length:Int))=false:=by simp;omega
  have Hr:=Lib.hid hr
  clear hne hr
  go_enter Try.func49,Try.ntmps49
  go_wp2_with (go_at_call 80;refine (check_any _ _ _ acts _ h2 Hr.out).mono ?_;rintro e w1 ⟨rfl,hb1⟩)
  exact bodyPost_ret (v:=.tuple #[.slice none 0 0,.slice none 0 0,.slice none 0 0,.int .i64 (checkNums cells.length acts)]) (by simp [results,Try.results49,go_sem]) rfl (Hp.out _ hb1)
theorem NumRow.push {wr:World} {rb n j:Nat} {vals:List Int} (h:NumRow wr rb n j vals) (hsz:wr.heap.size=rb + 1 + j) (hj:j < vals.length) (hn:j < n) :
    NumRow ((wr.alloc (.cells #[.int .i64 vals[j]] 139)).setCell ⟨rb,j,none⟩ (.pointer (some ⟨wr.heap.size,0,none⟩))) rb n (j + 1) vals ∧
    ((wr.alloc (.cells #[.int .i64 vals[j]] 139)).setCell ⟨rb,j,none⟩ (.pointer (some ⟨wr.heap.size,0,none⟩))).heap.size=rb + 1 + (j + 1):=by
  obtain ⟨c,h1,h2,h3⟩:=h.row
  have h1':(wr.alloc (.cells #[.int .i64 vals[j]] 139)).heap[rb]?=some (.cells c 72 (0,0)):=(Turns.alloc (fun _=>False) wr _).heap h1 (fun h=>h)
  refine ⟨⟨⟨_,heap_setCell h1' _,by simpa using h2,fun i hi=>?_⟩,fun i hi hij=>?_⟩,by simp [World.setCell];omega⟩
  · by_cases e:i=j
    · subst e
      rw [Array.getElem?_setIfInBounds_self,hsz]
      simp [h2,hn]
    · rw [Array.getElem?_setIfInBounds_ne (fun h=>e h.symm)]
      exact h3 i (by omega)
  · rw [heap_setCell_ne (by omega)]
    by_cases e:i=j
    · subst e
      rw [← hsz]
      exact heap_alloc_new wr _
    · exact (Turns.alloc (fun _=>False) wr _).heap (h.nums i hi (by omega)) (fun h=>h)
theorem NumRow.set {S:Nat→Prop} {w w':World} {rb n m:Nat} {vals:List Int} {y:Int} (h:NumRow w rb n n vals) (ht:Turns S w w') (hy:w'.heap[rb + 1 + m]?=some (.cells #[.int .i64 y] 139 (0,0)))
    (hS:∀ i,i≤n→i≠m + 1→¬ S (rb + i)):NumRow w' rb n n (vals.set m y):=by
  obtain ⟨c,h1,h2,h3⟩:=h.row
  refine ⟨⟨c,ht.heap h1 (hS 0 (Nat.zero_le _) (by omega)),h2,h3⟩,fun i hi hj=>?_⟩
  have hi':i < vals.length:=by simpa using hi
  by_cases e:i=m
  · subst e
    rw [hy]
    simp
  · rw [List.getElem_set_ne (fun h=>e h.symm)]
    refine ht.heap (h.nums i hi' hj) ?_
    have:=hS (i + 1) (by omega) (by omega)
    rwa [show rb + (i + 1)=rb + 1 + i by omega] at this
structure J2 (w:World) (rb n:Nat) (cells:List Int) (l:List A4) (tv av:Value) (wx:World):Prop where
  below:Below w.heap.size w wx
  row:NumRow wx rb n n (numTo cells l).2
  tape:TapeAt wx (rb + 2 + n) (rb + 1 + n) tv (l.map (·.k))
  ans:wx.ownsRow (rb + 2 + n) 3 1 av l.length ((numTo cells l).1.map (Value.int .i64))
  ne:∀ g,av.ownBlock=some g→tv.ownBlock≠some g
  size:rb + 2 + n≤wx.heap.size
  low:w.heap.size≤rb
theorem numTo_step (cells:List Int) (l:List A4) (x:A4):numTo cells (l ++ [x])=numStep (numTo cells l) x:=by
  unfold numTo
  rw [List.foldl_append]
  rfl
section
variable {w wr wq w2 w3:World} {rb n m:Nat} {cells:List Int} {l:List A4} {tv av:Value}
def actS (rb n m:Nat) (tv:Value):Nat→Prop:=fun i=>i=rb + 1 + m∨i=rb + 1 + n∨tv.ownBlock=some i
theorem J2.num (h:J2 w rb n cells l tv av wr) (hn:n=cells.length) (hm:m < n):wr.heap[rb + 1 + m]?=some (.cells #[.int .i64 ((numTo cells l).2.getD m 0)] 139 (0,0)):=by
  have hlen:=numTo_len cells l
  have:=h.row.nums m (by omega) hm
  rw [List.getD_eq_getElem?_getD,List.getElem?_eq_getElem (by omega)]
  exact this
theorem J2.turns (h:J2 w rb n cells l tv av wr) (ht:Turns (fun _=>False) wr wq):J2 w rb n cells l tv av wq :=
  ⟨h.below.trans (ht.below (fun _ h=>h.elim) h.below.size),h.row.turns ht (fun _ _ h=>h),h.tape.turns ht (fun h=>h) (fun _ _ h=>h),ht.row h.ans (fun _ _ h=>h),h.ne,Nat.le_trans h.size ht.size,h.low⟩
theorem J2.row_free (h:J2 w rb n cells l tv av wr):¬ actS rb n m tv rb:=fun e=>by
  rcases e with e | e | e
  · omega
  · omega
  · have:=(h.tape.row.lt _ e).1;omega
theorem J2.new_free (h:J2 w rb n cells l tv av wr) (hm:m < n):¬ actS rb n m tv wr.heap.size:=fun e=>by
  have:=h.size
  rcases e with e | e | e
  · omega
  · omega
  · have:=(h.tape.row.lt _ e).2;omega
theorem J2.ans_free (h:J2 w rb n cells l tv av wr) (hm:m < n):∀ g,av.ownBlock=some g→¬ actS rb n m tv g:=fun g hg e=>by
  have h0:=(h.ans.lt _ hg).1
  rcases e with e | e | e
  · omega
  · omega
  · exact h.ne g hg e
theorem J2.row_free2 (h:J2 w rb n cells l tv av wr):¬ (actS rb n m tv rb∨av.ownBlock=some rb):=fun e=>by
  rcases e with e | e
  · exact h.row_free e
  · have:=(h.ans.lt _ e).1;omega
theorem J2.new_free2 (h:J2 w rb n cells l tv av wr) (hm:m < n):¬ (actS rb n m tv wr.heap.size∨av.ownBlock=some wr.heap.size):=fun e=>by
  rcases e with e | e
  · exact h.new_free hm e
  · have:=(h.ans.lt _ e).2;omega
theorem J2.tape_free (h:J2 w rb n cells l tv av wr) (hm:m < n):tv.ownBlock≠some (rb + 1 + m):=fun e=>by
  have:=(h.tape.row.lt _ e).1;omega
theorem J2.step {x:A4} {tv':Value} {gg cap:Nat} {o:Obj} (h:J2 w rb n cells l tv av wq) (hn:n=cells.length) (hm:x.at_=(m:Int)) (hmn:m < n)
    (g1:TapeAt w2 (rb + 2 + n) (rb + 1 + n) tv' (l.map (·.k) ++ [x.k]))
    (g2:w2.heap[rb + 1 + m]?=some (.cells #[.int .i64 (numNew x.k ((numTo cells l).2.getD m 0) x.a x.b)] 139 (0,0)))
    (g3:Turns (actS rb n m tv) wq w2) (g4:∀ g,tv'.ownBlock=some g→tv.ownBlock=some g∨wq.heap.size≤g)
    (hown:w3.ownsRow (rb + 2 + n) 3 1 (.slice (some ⟨gg,0,none⟩) (l.length + 1) cap) (l.length + 1) ((numTo cells l).1.map (Value.int .i64) ++ [.int .i64 (numAns x.k ((numTo cells l).2.getD m 0) x.a)]))
    (hgrow:(w2.alloc o).grownBy w3 av.ownBlock) (hat:av.ownBlock=some gg∨gg=w2.heap.size + 1) :
    J2 w rb n cells (l ++ [x]) tv' (.slice (some ⟨gg,0,none⟩) (l.length + 1) cap) w3:=by
  have ht:Turns (fun i=>av.ownBlock=some i) w2 w3:=(Turns.alloc _ w2 o).trans (Turns.grown hgrow (fun _ h=>h))
  have hlt:=h.ans.lt
  have hsz:=h.size
  have h1:∀ g,tv'.ownBlock=some g→av.ownBlock≠some g:=fun g hg e=>by
    rcases g4 g hg with h5 | h5
    · exact h.ne g e h5
    · have:=(hlt g e).2;omega
  have hT:Turns (fun i=>actS rb n m tv i∨av.ownBlock=some i) wq w3:=(g3.mono (fun _ _ h=>.inl h)).trans (ht.mono (fun _ _ h=>.inr h))
  have hmt:x.at_.toNat=m:=by rw [hm];rfl
  have hst:=numTo_step cells l x
  refine ⟨h.below.trans (hT.below (fun k hk _=>?_) h.below.size),?_,?_,?_,?_,?_,h.low⟩
  · have hlow:=h.low
    rcases hk with (hk | hk | hk) | hk
    · omega
    · omega
    · have:=(h.tape.row.lt _ hk).1;omega
    · have:=(hlt _ hk).1;omega
  · rw [hst]
    simp only [numStep,hmt]
    refine h.row.set hT (ht.heap g2 (fun e=>?_)) (fun i hi hne e=>?_)
    · have:=(hlt _ e).1;omega
    · rcases e with (e | e | e) | e
      · omega
      · omega
      · have:=(h.tape.row.lt _ e).1;omega
      · have:=(hlt _ e).1;omega
  · rw [List.map_append]
    exact g1.turns ht (fun e=>by have:=(hlt _ e).1;omega) h1
  · rw [hst]
    simp only [numStep,hmt,List.map_append,List.length_append,List.length_cons,List.length_nil]
    exact hown
  · intro g hg e
    simp only [Value.ownBlock,Option.some.injEq] at hg
    rcases hat with h5 | h5
    · exact h1 g e (hg ▸ h5)
    · have:=(g1.row.lt g e).2
      omega
  · exact Nat.le_trans hsz hT.size
end
structure J3 (w:World) (rb n:Nat) (cells:List Int) (l:List A4) (tv av ev:Value) (j:Nat) (wx:World):Prop where
  j2:J2 w rb n cells l tv av wx
  out:wx.ownsRow (rb + 2 + n) 3 1 ev j (((numTo cells l).2.take j).map (Value.int .i64))
  ne:∀ g,ev.ownBlock=some g→av.ownBlock≠some g∧tv.ownBlock≠some g
theorem J3.step {w wx w3:World} {rb n j:Nat} {cells:List Int} {l:List A4} {tv av ev ev':Value} (h:J3 w rb n cells l tv av ev j wx) (hn:n=cells.length) (hj:j < n)
    (hown:w3.ownsRow (rb + 2 + n) 3 1 ev' (j + 1) (List.take j (List.map (Value.int .i64) (numTo cells l).2) ++ [.int .i64 ((numTo cells l).2[j]?.getD 0)]))
    (ht:Turns (fun k=>ev.ownBlock=some k) wx w3) (hb:∀ g,ev'.ownBlock=some g→ev.ownBlock=some g∨wx.heap.size≤g):J3 w rb n cells l tv av ev' (j + 1) w3:=by
  have hlen:=numTo_len cells l
  have hlow:=h.j2.low
  have hlt:=h.out.lt
  refine ⟨⟨h.j2.below.trans (ht.below (fun k hk _=>by have:=(hlt k hk).1;omega) h.j2.below.size),h.j2.row.turns ht (fun i hi e=>by have:=(hlt _ e).1;omega),
    h.j2.tape.turns ht (fun e=>by have:=(hlt _ e).1;omega) (fun k hk e=>(h.ne k e).2 hk),ht.row h.j2.ans (fun k hk e=>(h.ne k e).1 hk),h.j2.ne,Nat.le_trans h.j2.size ht.size,hlow⟩,?_,?_⟩
  · rw [List.take_succ_eq_append_getElem (by omega),List.map_append]
    rw [List.getElem?_eq_getElem (by omega),← List.map_take] at hown
    exact hown
  · intro g hg
    rcases hb g hg with h5 | h5
    · exact h.ne g h5
    · exact ⟨fun e=>by have:=(h.j2.ans.lt g e).2;omega,fun e=>by have:=(h.j2.tape.row.lt g e).2;omega⟩
set_option maxHeartbeats 4000000 in
theorem nums_ok (ca aa:Option Addr) (cc ac:Nat) (cells:List Int) (acts:List A4) (w:World) (h1:cells.length≤64) (h2:acts.length≤1000) (hz:checkNums cells.length acts=0) (hr:ActsIn w aa acts) (hi:IntsIn w ca cells) :
    Calls Try.prog 49 #[.slice ca cells.length cc,.slice aa acts.length ac] w (NumsPost w cells acts):=by
  obtain ⟨i0,hi0,hz0,hz1,hz2⟩:=info_parts info_int
  have hz':(checkNums cells.length acts != 0)=false:=by rw [bne_eq_false_iff_eq];exact hz
  have h3:decide ((64:Int) < (cells.length:Int))=false:=by simp;omega
  have h4:decide ((1000:Int) < (acts.length:Int))=false:=by simp;omega
  have Hr:=Lib.hid hr
  have Hi:=Lib.hid hi
  have Hz:=Lib.hid hz
  clear hr hi hz
  have hmk:=run_makeN (P:=Try.prog) 57 72 (.pointer none) 8 Try.underlying57 info_ptr rfl cells.length (by omega) (by omega)
  go_enter Try.func49,Try.ntmps49
  go_wp2_with (go_at_call 80;refine (check_any _ _ _ acts _ h2 Hr.out).mono ?_;rintro e w1 ⟨rfl,hb1⟩)
  have Hb1:=Lib.hid hb1
  clear hb1 hmk
  obtain ⟨rb,hrb⟩:∃ rb,rb=w1.heap.size:=⟨_,rfl⟩
  rw [← hrb]
  have Hrb:=Lib.hid hrb
  clear hrb
  go_loopw [41] (fun i wr=>∃ j:Nat,j≤cells.length∧i=.int .i64 j∧NumRow wr rb cells.length j cells∧wr.heap.size=rb + 1 + j∧Below rb w1 wr) (fun i _=>cells.length - (intOf i).toNat)
  case atStart =>
    have hrb:=Hrb.out
    refine ⟨0,Nat.zero_le _,rfl,⟨⟨mkRow (.pointer none) cells.length,?_,mkRow_size _ _,fun i hi=>by omega⟩,fun i _ hi=>by omega⟩,?_,?_⟩
    · rw [hrb];exact heap_alloc_new w1 _
    · rw [hrb];simp
    · exact (Below.refl _ _).alloc (by omega) _
  case round =>
    obtain ⟨j,hj,rfl,hrow,hsz,hb⟩:=hrel
    by_cases hlt:j < cells.length
    · have hw:Below w.heap.size w wr:=Hb1.out.trans (hb.mono (by have:=Hrb.out;have:=Hb1.out.size;omega))
      obtain ⟨b,off,rfl,hcell⟩:=(Hi.out.below hw) j hlt
      obtain ⟨c,hc1,hc2,hc3⟩:=hrow.row
      have hgrow:=Turns.alloc (fun _=>False) wr (.cells #[.int .i64 cells[j]] 139)
      have hc1':(wr.alloc (.cells #[.int .i64 cells[j]] 139)).heap[rb]?=some (.cells c 72 (0,0)):=hgrow.heap hc1 (fun h=>h)
      obtain ⟨u,hu⟩:∃ u,c[j]?=some u:=⟨_,Array.getElem?_eq_getElem (by omega)⟩
      have hcj:(wr.alloc (.cells #[.int .i64 cells[j]] 139)).cell? ⟨rb,j,none⟩=some u:=cell_of_heap hc1' hu
      have hfj:(wr.alloc (.cells #[.int .i64 cells[j]] 139)).frozen? ⟨rb,j,none⟩=false:=frozen_of_heap hc1'
      have H1:=Lib.hid hrow
      have H2:=Lib.hid hsz
      have H3:=Lib.hid hb
      have H4:=Lib.hid hc1'
      have H5:=Lib.hid hgrow
      have H6:=Lib.hid hc2
      have H7:=Lib.hid hc3
      clear hrow hsz hb hw hc1 hc1' hgrow hc2 hc3 hu
      go_wp2_with (go_at_call 30;refine (newnum_any _ _).mono ?_;rintro e w2 ⟨rfl,rfl⟩)
      go_roundw
      case rel =>
        have h5:=H1.out.push H2.out hlt hlt
        exact ⟨j + 1,by omega,by go_num,h5.1,h5.2,(H3.out.alloc (by rw [H2.out];omega) _).setCell (Nat.le_refl _) _⟩
      case measure=>simp [intOf];omega
    · obtain rfl:j=cells.length:=by omega
      have hw:Below w.heap.size w wr:=Hb1.out.trans (hb.mono (by have:=Hrb.out;have:=Hb1.out.size;omega))
      have hrle:w.heap.size≤rb:=by rw [Hrb.out];exact Hb1.out.size
      clear hb hlt hj Hrb Hb1
      have hnr:NumRow (wr.alloc (.cells #[.slice none 0 0] 189)) rb cells.length cells.length cells:=hrow.turns (Turns.alloc (fun _=>False) wr _) (fun _ _ h=>h)
      have htp:TapeAt (wr.alloc (.cells #[.slice none 0 0] 189)) (rb + 2 + cells.length) (rb + 1 + cells.length) (.slice none 0 0) []:=by
        have:=TapeAt.new wr (rb + 2 + cells.length)
        rwa [hsz] at this
      have hw2:Below w.heap.size w (wr.alloc (.cells #[.slice none 0 0] 189)):=hw.alloc hw.size _
      have hs2:(wr.alloc (.cells #[.slice none 0 0] 189)).heap.size=rb + 2 + cells.length:=by simp;omega
      have Hnr:=Lib.hid hnr
      have Htp:=Lib.hid htp
      have Hw2:=Lib.hid hw2
      have Hs2:=Lib.hid hs2
      have Hsz:=Lib.hid hsz
      clear hnr htp hw2 hs2 hsz hw hrow
      go_wp2_with (go_at_call 82;refine (newtape_any _).mono ?_;rintro e w2 ⟨rfl,rfl⟩)
      rw [Hsz.out]
      generalize (wr.alloc (.cells #[.slice none 0 0] 189))=wt at *
      have hj2:J2 w rb cells.length cells [] (.slice none 0 0) (.slice none 0 0) wt:=⟨Hw2.out,Hnr.out,Htp.out,World.ownsRow_nil _ _ _ _,by simp [Value.ownBlock],by rw [Hs2.out];exact Nat.le_refl _,hrle⟩
      have Hj2:=Lib.hid hj2
      clear hj2 Hw2 Hnr Htp Hs2 hrle
      go_loopw [14,55] (fun av i wx=>∃ (j:Nat) (tv:Value),j≤acts.length∧i=.int .i64 j∧J2 w rb cells.length cells (acts.take j) tv av wx) (fun _ i _=>acts.length - (intOf i).toNat)
      case atStart=>exact ⟨0,.slice none 0 0,Nat.zero_le _,rfl,Hj2.out⟩
      case round =>
        obtain ⟨j,tv,hj,rfl,hinv⟩:=hrel
        clear Hj2
        by_cases hlt:j < acts.length
        · obtain ⟨b,off,rfl,hc1,hc2,hc3,hc4⟩:=(Hr.out.below hinv.below) j hlt
          obtain ⟨k1,k2,k3,k4⟩:=checkNums_ok _ acts Hz.out acts[j] (List.getElem_mem hlt)
          obtain ⟨m,hm⟩:=Int.eq_ofNat_of_zero_le k3
          rw [hm] at hc2 k4
          have hmn:m < cells.length:=by omega
          have hT:=(Turns.alloc (fun _=>False) wr (.cells #[.int .i64 acts[j].k,.int .i64 (m:Int),.int .i64 acts[j].a,.int .i64 acts[j].b] 103)).trans (Turns.drew _ _)
          have hq:∀ o v,#[Value.int .i64 acts[j].k,.int .i64 (m:Int),.int .i64 acts[j].a,.int .i64 acts[j].b][o]?=some v→((wr.alloc (.cells #[.int .i64 acts[j].k,.int .i64 (m:Int),.int .i64 acts[j].a,.int .i64 acts[j].b] 103)).drew).cell? ⟨wr.heap.size,o,none⟩=some v:=fun o v h=>cell_of_heap (heap_alloc_new wr _) h
          have hrow:=hinv.row.cell hmn
          have hqr:=hT.cell hrow (fun h=>h)
          have e1:((wr.alloc (.cells #[.int .i64 acts[j].k,.int .i64 (m:Int),.int .i64 acts[j].a,.int .i64 acts[j].b] 103)).drew).heap.size=wr.heap.size + 1:=by simp
          have htl:(acts.take j).length=j:=by rw [List.length_take];omega
          have hbs:=hinv.size
          have hlt1:rb < wr.heap.size:=by omega
          have hm0:(0:Int)≤(m:Int):=by omega
          have hm1:(m:Int) < (cells.length:Int):=by omega
          have Hq:=Lib.hid hq
          have Hqr:=Lib.hid hqr
          have He1:=Lib.hid e1
          have Hm:=Lib.hid hm
          have Htl:=Lib.hid htl
          have Hi0:=Lib.hid hinv
          have Hi1:=Lib.hid (hinv.turns hT)
          clear hq hqr e1 hm htl hinv hT
          go_wp2_with fail
          go_region_held3 (fun w'=>w'.cell? ⟨wr.heap.size,0,none⟩=some (.int .i64 acts[j].k)∧w'.cell? ⟨wr.heap.size,1,none⟩=some (.int .i64 (m:Int))∧w'.cell? ⟨wr.heap.size,2,none⟩=some (.int .i64 acts[j].a)∧w'.cell? ⟨wr.heap.size,3,none⟩=some (.int .i64 acts[j].b)∧w'.cell? ⟨rb,m,none⟩=some (.pointer (some ⟨rb + 1 + m,0,none⟩)))
            (first | go_keep | exact ⟨g3.cell (Hq.out 0 _ rfl) (Hi0.out.new_free hmn),g3.cell (Hq.out 1 _ rfl) (Hi0.out.new_free hmn),g3.cell (Hq.out 2 _ rfl) (Hi0.out.new_free hmn),g3.cell (Hq.out 3 _ rfl) (Hi0.out.new_free hmn),g3.cell Hqr.out Hi0.out.row_free⟩ | (have gt:=((g3.mono (fun _ _ h=>Or.inl h)).trans (Turns.alloc _ w2 _)).trans (Turns.grown hgrow (fun _ h=>Or.inr h));exact ⟨gt.cell (Hq.out 0 _ rfl) (Hi0.out.new_free2 hmn),gt.cell (Hq.out 1 _ rfl) (Hi0.out.new_free2 hmn),gt.cell (Hq.out 2 _ rfl) (Hi0.out.new_free2 hmn),gt.cell (Hq.out 3 _ rfl) (Hi0.out.new_free2 hmn),gt.cell Hqr.out Hi0.out.row_free2⟩))
            (first | (go_at_call 83;refine (do_tape (rb + 2 + cells.length) (rb + 1 + m) (rb + 1 + cells.length) tv _ _ _ _ _ _ _ ⟨k1,k2⟩ Hi1.out.tape (Hi1.out.num rfl hmn) (by simp;omega) (by rw [He1.out];omega) (Hi0.out.tape_free hmn)).mono ?_;rintro e w2 ⟨rfl,tv',g1,g2,g3,g4⟩) | (refine step_append_lies _ (by rfl) _ _ _ (by rfl) (rb + 2 + cells.length) 3 i0 _ 1 8 Try.underlying22 hi0 hz0 hz1 hz2 rfl (by omega) u14 _ _ (by rfl) ((g3.row Hi1.out.ans (Hi0.out.ans_free hmn)).alloc _) ⟨w2.heap.size,0,none⟩ 1 1 [.int .i64 (numAns acts[j].k ((numTo cells (acts.take j)).2.getD m 0) acts[j].a)] (by rfl) (by rfl) (World.news_of_block (heap_alloc_new w2 _)) (by simp [Value.oneCell']) (by omega) (by rw [Htl.out];unfold maxLen;omega) (by rw [Htl.out];omega) (by have:=g3.size;rw [He1.out] at this;simp;omega) (w2.heap.size + 1) (by simp) ?_;intro gg cap w3 hown3 hgrow hat hlt3))
          have Hstep:=Lib.hid (Hi1.out.step rfl Hm.out hmn g1 g2 g3 g4 hown3 hgrow hat)
          have Hsize:=Lib.hid hlt3
          clear g1 g2 g3 g4 hown3 hgrow hat hlt3 Hq Hqr
          go_wp2
          go_roundw
          case rel =>
            refine ⟨j + 1,tv',by omega,by go_num,?_⟩
            have:=Hstep.out
            rw [Htl.out] at this
            rw [List.take_succ_eq_append_getElem hlt]
            exact this
          case measure=>simp [intOf];omega
        · obtain rfl:j=acts.length:=by omega
          rw [List.take_length] at hinv
          clear Hr hlt hj
          have hj3:J3 w rb cells.length cells acts tv u14 (.slice none 0 0) 0 wr:=⟨hinv,World.ownsRow_nil _ _ _ _,by simp [Value.ownBlock]⟩
          obtain ⟨ava,avc,rfl⟩:=row_shape hinv.ans
          have Hj3:=Lib.hid hj3
          clear hj3 hinv
          go_wp2_with fail
          go_loopw [15,74] (fun ev i wx=>∃ j:Nat,j≤cells.length∧i=.int .i64 j∧J3 w rb cells.length cells acts tv (.slice ava acts.length avc) ev j wx) (fun _ i _=>cells.length - (intOf i).toNat)
          case atStart=>exact ⟨0,Nat.zero_le _,rfl,Hj3.out⟩
          case round =>
            obtain ⟨j,hj,rfl,hinv⟩:=hrel
            clear Hj3
            by_cases hlt:j < cells.length
            · have hnum:=hinv.j2.num rfl hlt
              have hrow:=hinv.j2.row.cell hlt
              have hbs:=hinv.j2.size
              have Hi:=Lib.hid hinv
              have Hnum:=Lib.hid hnum
              clear hinv hnum
              go_wp2_with (first | (go_at_call 52;refine (num_load .nilIface (rb + 1 + j) _ _ (fun w'=>_=w') (pass_nil 1 _) (by rintro w1 rfl;exact Hnum.out)).mono ?_;rintro e w1 ⟨rfl,rfl⟩) | (at_builtin;refine wpList_append_one rfl _ _ 22 rfl (rb + 2 + cells.length) 3 i0 (.int .i64 0) 1 8 Try.underlying22 hi0 hz0 hz1 hz2 rfl (by decide) (by decide) u15 j _ [_] rfl Hi.out.out rfl rfl (by simp [Value.oneCell']) (by omega) hbs ?_))
              intro v' w3 g1 g2 g3
              have Hstep:=Lib.hid (Hi.out.step rfl hlt g1 g2 g3)
              clear g1 g2 g3
              go_wp2
              go_roundw
              case rel=>exact ⟨j + 1,by omega,by go_num,Hstep.out⟩
              case measure=>simp [intOf];omega
            · obtain rfl:j=cells.length:=by omega
              have hlen:=numTo_len cells acts
              obtain ⟨eva,evc,rfl⟩:=row_shape hinv.out
              have Hi:=Lib.hid hinv
              have Hlen:=Lib.hid hlen
              clear hinv hlen hlt hj
              go_wp2_with (go_at_call 84;refine (kinds_any _ _ tv _ _ Hi.out.j2.tape (by simp;omega)).mono ?_;rintro e w1 ⟨v3,rfl,g1,g2⟩)
              have he:numsErr cells acts=0:=by rw [numsErr,if_neg (by omega)];exact Hz.out
              refine bodyPost_ret (v:=.tuple #[.slice ava acts.length avc,.slice eva cells.length evc,v3,.int .i64 0]) (by simp [results,Try.results49,go_sem]) rfl ⟨.slice ava acts.length avc,.slice eva cells.length evc,v3,by rw [he],?_,?_,?_,?_,?_,?_⟩
              · have hlow:=Hi.out.j2.low
                have h5:=row_base (row_below Hi.out.j2.ans g2) (base':=w.heap.size) (by omega)
                show RowI _ _ _ _
                rw [numsAns,if_pos he]
                unfold RowI
                rw [Hlen.out.1]
                exact h5
              · have hlow:=Hi.out.j2.low
                have h5:=row_base (row_below Hi.out.out g2) (base':=w.heap.size) (by omega)
                rw [List.take_of_length_le (by rw [Hlen.out.2];exact Nat.le_refl _)] at h5
                show RowI _ _ _ _
                rw [numsEnd,if_pos he]
                unfold RowI
                rw [Hlen.out.2]
                exact h5
              · have:=Hi.out.j2.below.size
                rw [numsKinds,if_pos he]
                exact row_base g1 (by omega)
              · exact Hi.out.j2.below.trans (g2.mono Hi.out.j2.below.size)
              · intro g hg
                have h6:=(Hi.out.j2.ans.lt g hg).2
                refine ⟨fun e=>(Hi.out.ne g e).1 hg,fun e=>?_⟩
                have:=(g1.lt g e).1
                omega
              · intro g hg e
                have h6:=(Hi.out.out.lt g hg).2
                have:=(g1.lt g e).1
                omega
theorem nums_any (ca aa:Option Addr) (cc ac:Nat) (cells:List Int) (acts:List A4) (w:World) (hr:ActsIn w aa acts) (hi:IntsIn w ca cells) :
    Calls Try.prog 49 #[.slice ca cells.length cc,.slice aa acts.length ac] w (NumsPost w cells acts):=by
  by_cases h1:64 < cells.length∨1000 < acts.length
  · exact nums_big ca aa cc ac cells acts w h1
  · by_cases h2:checkNums cells.length acts=0
    · exact nums_ok ca aa cc ac cells acts w (by omega) (by omega) h2 hr hi
    · exact nums_bad ca aa cc ac cells acts w (by omega) (by omega) h2 hr
end Go.Proofs.Ytndppafplgilbaa
namespace Go.Proofs.Ytndppafplgilbaa
open Go.RowKit
def SlicesIn (w:World) (a:Option Addr) (vs:List Value):Prop:=∀ (j:Nat) (h:j < vs.length),∃ b off,a=some ⟨b,off,none⟩∧w.cell? ⟨b,off + j,none⟩=some vs[j]
theorem SlicesIn.kept {w w':World} {a:Option Addr} {l:List Value} (h:SlicesIn w a l) (hk:∀ b off,a=some ⟨b,off,none⟩→b < w.heap.size→w'.heap[b]?=w.heap[b]?):SlicesIn w' a l:=by
  intro j hj
  obtain ⟨b,off,e,h1⟩:=h j hj
  have hb:w'.heap[b]?=w.heap[b]?:=hk b off e (World.block_lt_of_cell? w ⟨b,off + j,none⟩ h1)
  exact ⟨b,off,e,by rw [cell_of_block hb];exact h1⟩
def allFew (ls:List Nat):Bool:=ls.all fun n=>decide (n≤1000)
theorem allFew_cons (ls:List Nat) (j:Nat) (h:j < ls.length):allFew (ls.drop j)=(decide (ls[j]≤1000) && allFew (ls.drop (j + 1))):=by
  rw [List.drop_eq_getElem_cons h]
  rfl
structure LensIn (vs:List Value) (ls:List Nat):Prop where
  len:vs.length=ls.length
  at_:∀ j (h:j < ls.length),∃ a c,vs[j]?=some (.slice a ls[j] c)
theorem play1_any (a:Option Addr) (n c:Nat) (w:World):Calls Try.prog 48 #[.slice a n c] w fun e w'=>e=.returned (.bool (!decide (n≤1000)))∧w=w':=by
  go_enter Try.func48,Try.ntmps48
  go_wp2
  go_ret
  exact ⟨by congr 2;by_cases h:n≤1000 <;> simp [h] <;> omega,rfl⟩
theorem play1_lit (a:Option Addr) (n c:Nat) (v:Bool) (w:World) (h:decide (n≤1000)=v):Calls Try.prog 48 #[.slice a n c] w fun e w'=>e=.returned (.bool (!v))∧w=w':=by
  subst h
  exact play1_any a n c w
theorem indexL_any (a:Option Addr) (cap:Nat) (vs:List Value) (ls:List Nat) (w:World) (hn:ls.length≤64) (hr:SlicesIn w a vs) (hl:LensIn vs ls) :
    Calls Try.prog 78 #[.slice a ls.length cap,.func (.func 48) #[] #[]] w fun e w'=>∃ n:Int,e=.returned (.int .i64 n)∧(decide (0≤n)=!allFew ls)∧w=w':=by
  have Hr:=Lib.hid hr
  have Hl:=Lib.hid hl
  clear hr hl
  go_enter Try.func78,Try.ntmps78
  go_wp2_with fail
  go_loop [8] (fun i=>∃ j:Nat,j≤ls.length∧i=.int .i64 j∧Hid (allFew (ls.drop j)=allFew ls)) (fun i=>ls.length - (intOf i).toNat)
  case atStart=>exact ⟨0,Nat.zero_le _,rfl,rfl⟩
  case round =>
    obtain ⟨j,hj,rfl,hspec⟩:=hrel
    by_cases hlt:j < ls.length
    · obtain ⟨bb,off,rfl,h⟩:=Hr.out j (by rw [Hl.out.len];exact hlt)
      obtain ⟨va,vc,hv⟩:=Hl.out.at_ j hlt
      rw [List.getElem?_eq_getElem (by rw [Hl.out.len];exact hlt)] at hv
      rw [Option.some.inj hv] at h
      clear hv
      have Hs:=Lib.hid ((allFew_cons ls j hlt).symm.trans hspec.out)
      clear hspec
      cases ra:decide (ls[j]≤1000)
      · have Hp:=Lib.hid (show allFew ls=false from by
          have:=Hs.out
          rw [ra,Bool.false_and] at this
          exact this.symm)
        go_wp2_with (go_at_call 48;refine (play1_lit _ _ _ _ _ (by assumption)).mono ?_;rintro e w1 ⟨rfl,rfl⟩)
        go_ret
        exact ⟨_,rfl,by rw [Hp.out];simp,rfl⟩
      · have H5:=Lib.hid (show allFew (ls.drop (j + 1))=allFew ls by have:=Hs.out;rw [ra,Bool.true_and] at this;exact this)
        go_wp2_with (go_at_call 48;refine (play1_lit _ _ _ _ _ (by assumption)).mono ?_;rintro e w1 ⟨rfl,rfl⟩)
        go_round
        case rel=>exact ⟨j + 1,by omega,by go_num,H5.out⟩
        case measure=>simp [intOf];omega
    · have Hp:=Lib.hid (show allFew ls=true from by rw [← hspec.out,List.drop_eq_nil_of_le (by omega)];rfl)
      clear hspec
      go_wp2
      go_ret
      exact ⟨_,rfl,by rw [Hp.out];rfl,rfl⟩
theorem containsL_any (a:Option Addr) (cap:Nat) (vs:List Value) (ls:List Nat) (w:World) (hn:ls.length≤64) (hr:SlicesIn w a vs) (hl:LensIn vs ls) :
    Calls Try.prog 47 #[.slice a ls.length cap,.func (.func 48) #[] #[]] w fun e w'=>e=.returned (.bool (!allFew ls))∧w=w':=by
  have Hr:=Lib.hid hr
  have Hl:=Lib.hid hl
  clear hr hl
  go_enter Try.func47,Try.ntmps47
  go_wp2_with fail
  refine (indexL_any a cap vs ls w hn Hr.out Hl.out).mono ?_
  rintro e w1 ⟨n,rfl,h,rfl⟩
  have H:=Lib.hid h
  clear h
  go_wp2
  go_ret
  exact ⟨by rw [← H.out];rfl,rfl⟩
end Go.Proofs.Ytndppafplgilbaa
