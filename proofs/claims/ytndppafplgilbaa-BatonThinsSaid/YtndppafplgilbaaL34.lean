/-
  larchlaw04.BatonThins returns true for every input. No condition. (Part 34 of 49; joined by program.)
-/
import Derived.Test.YtndppafplgilbaaL23
import Derived.Test.YtndppafplgilbaaL28
set_option linter.unusedVariables false
set_option linter.unusedSimpArgs false
set_option linter.unusedSectionVars false
set_option maxRecDepth 100000
namespace Go.Proofs.Ytndppafplgilbaa
open Go.RowKit
def BoolsIn (w:World) (a:Option Addr) (l:List Bool):Prop:=∀ (j:Nat) (h:j < l.length),∃ b off,a=some ⟨b,off,none⟩∧w.cell? ⟨b,off + j,none⟩=some (.bool l[j])
theorem BoolsIn.turns {w w':World} {a:Option Addr} {l:List Bool} (h:BoolsIn w a l) (ht:Turns (fun _=>False) w w'):BoolsIn w' a l:=fun j hj=>by
  obtain ⟨b,off,e,h1⟩:=h j hj
  exact ⟨b,off,e,by rw [cell_of_block (ht.block b (World.block_lt_of_cell? w ⟨b,off + j,none⟩ h1) id)];exact h1⟩
def RowsIn (w:World) (a:Option Addr) (l:List (List Int)):Prop:=∀ (j:Nat) (h:j < l.length),∃ b off ao cap,a=some ⟨b,off,none⟩∧w.cell? ⟨b,off + j,none⟩=some (.slice ao l[j].length cap)∧IntsIn w ao l[j]
theorem RowsIn.turns {w w':World} {a:Option Addr} {l:List (List Int)} (h:RowsIn w a l) (ht:Turns (fun _=>False) w w'):RowsIn w' a l:=fun j hj=>by
  obtain ⟨b,off,ao,cap,e,h1,h2⟩:=h j hj
  exact ⟨b,off,ao,cap,e,by rw [cell_of_block (ht.block b (World.block_lt_of_cell? w ⟨b,off + j,none⟩ h1) id)];exact h1,h2.turns ht⟩
theorem StepsIn.turns {w w':World} {a:Option Addr} {l:List Stp} (h:StepsIn w a l) (ht:Turns (fun _=>False) w w'):StepsIn w' a l:=fun j hj=>by
  obtain ⟨b,off,e,h1,h2,h3⟩:=h j hj
  have hl:=ht.block b (World.block_lt_of_cell? w ⟨b,off + j * 3,none⟩ h1) id
  exact ⟨b,off,e,by rw [cell_of_block hl];exact h1,by rw [cell_of_block hl];exact h2,by rw [cell_of_block hl];exact h3⟩
set_option maxHeartbeats 400000 in
theorem bools_same (a b:Option Addr) (n m ca cb:Nat) (l:List Bool) (w:World) (hn:n=l.length) (hm:m=l.length) (ha:BoolsIn w a l) (hb:BoolsIn w b l) (hl:l.length≤9223372036854775807) :
    Calls Try.prog 21 #[.slice a n ca,.slice b m cb] w fun e w'=>e=.returned (.bool true)∧Turns (fun _=>False) w w':=by
  subst hn hm
  have Ha:=Lib.hid ha
  have Hb:=Lib.hid hb
  clear ha hb
  go_enter Try.func21,Try.ntmps21
  go_wp2_with fail
  go_loopw [5] (fun i wr=>∃ j:Nat,j≤l.length∧i=.int .i64 j∧Turns (fun _=>False) w wr) (fun i _=>l.length - (intOf i).toNat)
  case atStart=>exact ⟨0,Nat.zero_le _,rfl,Turns.refl _ _⟩
  case round =>
    obtain ⟨j,hj,rfl,ht⟩:=hrel
    by_cases hlt:j < l.length
    · obtain ⟨b1,o1,rfl,h1⟩:=(Ha.out.turns ht) j hlt
      obtain ⟨b2,o2,rfl,h2⟩:=(Hb.out.turns ht) j hlt
      have Ht:=Lib.hid ht
      clear ht
      have j0:(0:Int)≤(j:Int):=by omega
      have j1:(j:Int) < (l.length:Int):=by omega
      go_wp2_with fail
      go_quiet (fail)
      go_wp2
      go_roundw
      case rel=>exact ⟨j + 1,by omega,by go_num,Ht.out.trans (Turns.drewN _ _ _)⟩
      case measure=>simp [intOf];omega
    · have Ht:=Lib.hid ht
      clear ht
      go_wp2
      go_ret
      exact ⟨rfl,Ht.out⟩
set_option maxHeartbeats 1000000 in
theorem steps_same (a b:Option Addr) (n m ca cb:Nat) (l:List Stp) (w:World) (hn:n=l.length) (hm:m=l.length) (ha:StepsIn w a l) (hb:StepsIn w b l) (hl:l.length≤9223372036854775807) :
    Calls Try.prog 22 #[.slice a n ca,.slice b m cb] w fun e w'=>e=.returned (.bool true)∧Turns (fun _=>False) w w':=by
  subst hn hm
  have Ha:=Lib.hid ha
  have Hb:=Lib.hid hb
  clear ha hb
  go_enter Try.func22,Try.ntmps22
  go_wp2_with fail
  go_loopw [5] (fun i wr=>∃ j:Nat,j≤l.length∧i=.int .i64 j∧Turns (fun _=>False) w wr) (fun i _=>l.length - (intOf i).toNat)
  case atStart=>exact ⟨0,Nat.zero_le _,rfl,Turns.refl _ _⟩
  case round =>
    obtain ⟨j,hj,rfl,ht⟩:=hrel
    by_cases hlt:j < l.length
    · obtain ⟨b1,o1,rfl,h1,h2,h3⟩:=(Ha.out.turns ht) j hlt
      obtain ⟨b2,o2,rfl,h4,h5,h6⟩:=(Hb.out.turns ht) j hlt
      have Ht:=Lib.hid ht
      clear ht
      have j0:(0:Int)≤(j:Int):=by omega
      have j1:(j:Int) < (l.length:Int):=by omega
      go_wp2_with fail
      go_quiet (fail)
      go_wp2
      go_roundw
      case rel=>exact ⟨j + 1,by omega,by go_num,Ht.out.trans (Turns.drewN _ _ _)⟩
      case measure=>simp [intOf];omega
    · have Ht:=Lib.hid ht
      clear ht
      go_wp2
      go_ret
      exact ⟨rfl,Ht.out⟩
set_option maxHeartbeats 1000000 in
theorem lists_same (a b:Option Addr) (n m ca cb:Nat) (l:List (List Int)) (w:World) (hn:n=l.length) (hm:m=l.length) (ha:RowsIn w a l) (hb:RowsIn w b l) (hl:l.length≤9223372036854775807) (hx:∀ x∈l,x.length≤9223372036854775807) :
    Calls Try.prog 20 #[.slice a n ca,.slice b m cb] w fun e w'=>e=.returned (.bool true)∧Turns (fun _=>False) w w':=by
  subst hn hm
  have Ha:=Lib.hid ha
  have Hb:=Lib.hid hb
  clear ha hb
  go_enter Try.func20,Try.ntmps20
  go_wp2_with fail
  go_loopw [13] (fun i wr=>∃ j:Nat,j≤l.length∧i=.int .i64 j∧Turns (fun _=>False) w wr) (fun i _=>l.length - (intOf i).toNat)
  case atStart=>exact ⟨0,Nat.zero_le _,rfl,Turns.refl _ _⟩
  case round =>
    obtain ⟨j,hj,rfl,ht⟩:=hrel
    by_cases hlt:j < l.length
    · obtain ⟨b1,o1,ao1,c1,rfl,h1,i1⟩:=(Ha.out.turns ht) j hlt
      obtain ⟨b2,o2,ao2,c2,rfl,h2,i2⟩:=(Hb.out.turns ht) j hlt
      have Ht:=Lib.hid ht
      have I1:=Lib.hid i1
      have I2:=Lib.hid i2
      have Hlen:=Lib.hid (hx l[j] (List.getElem_mem hlt))
      clear ht i1 i2
      have j0:(0:Int)≤(j:Int):=by omega
      have j1:(j:Int) < (l.length:Int):=by omega
      go_wp2_with fail
      go_region_held3 (fun w'=>w'.cell? ⟨b1,o1 + j,none⟩=some (.slice ao1 l[j].length c1)∧w'.cell? ⟨b2,o2 + j,none⟩=some (.slice ao2 l[j].length c2))
        (first | go_keep | exact ⟨(t2.cell h1 id),(t2.cell h2 id)⟩)
        (first | (go_at_call 18;refine (ints_same' _ _ _ _ _ _ l[j] _ rfl rfl (I1.out.turns (Turns.drew _ _)) (I2.out.turns (Turns.drew _ _)) Hlen.out).mono ?_;rintro e w2 ⟨rfl,t2⟩))
      go_wp2
      go_roundw
      case rel=>exact ⟨j + 1,by omega,by go_num,Ht.out.trans ((Turns.drew _ _).trans t2)⟩
      case measure=>simp [intOf];omega
    · have Ht:=Lib.hid ht
      clear ht
      go_wp2
      go_ret
      exact ⟨rfl,Ht.out⟩
def askedErr (n m:Nat):Int:=if n < 1∨64 < n then 1 else if 1000000 < m then 2 else 0
def cutL (l:List Int):List Int:=if 400 < l.length∧l.length≤1000000 then l.take 400 else l
theorem cutL_in {w:World} {a:Option Addr} {l:List Int} (h:IntsIn w a l):IntsIn w a (cutL l):=by
  unfold cutL
  split
  · intro j hj
    have hj':j < l.length:=by simp at hj;omega
    obtain ⟨b,off,e,h1⟩:=h j hj'
    exact ⟨b,off,e,by rw [List.getElem_take];exact h1⟩
  · exact h
theorem cutL_le (l:List Int):(cutL l).length≤l.length:=by
  unfold cutL
  split
  · simp;omega
  · exact Nat.le_refl _
set_option maxHeartbeats 400000 in
theorem cut_any (a:Option Addr) (cap:Nat) (l:List Int) (w:World) (hr:IntsIn w a l) (hc:l.length≤cap) :
    Calls Try.prog 12 #[.slice a l.length cap] w fun e w'=>e=.returned (.slice a (cutL l).length cap)∧w=w':=by
  by_cases h1:400 < l.length
  · have h1':(400:Int) < l.length:=by omega
    by_cases h2:l.length≤1000000
    · have h2':(l.length:Int)≤1000000:=by omega
      have e:(cutL l).length=400:=by unfold cutL;rw [if_pos ⟨h1,h2⟩];simp;omega
      rw [e]
      obtain ⟨b,off,rfl,_⟩:=hr 0 (by omega)
      clear hr e
      go_enter Try.func12,Try.ntmps12
      go_wp2_with fail
      all_goals (go_ret;exact ⟨rfl,rfl⟩)
    · have h2':¬ (l.length:Int)≤1000000:=by omega
      have e:cutL l=l:=by unfold cutL;rw [if_neg (by omega)]
      rw [e]
      clear hr e
      go_enter Try.func12,Try.ntmps12
      go_wp2_with fail
      all_goals (go_ret;exact ⟨rfl,rfl⟩)
  · have h1':¬ (400:Int) < l.length:=by omega
    have e:cutL l=l:=by unfold cutL;rw [if_neg (by omega)]
    rw [e]
    clear hr e
    go_enter Try.func12,Try.ntmps12
    go_wp2_with fail
    all_goals (go_ret;exact ⟨rfl,rfl⟩)
end Go.Proofs.Ytndppafplgilbaa
