/-
  larchlaw04.BatonThins returns true for every input. No condition. (Part 23 of 49; joined by program.)
-/
import Derived.Test.YtndppafplgilbaaL01
import Derived.Deep.QuietTactic
import Derived.BigQuiet
set_option linter.unusedVariables false
set_option linter.unusedSimpArgs false
set_option linter.unusedSectionVars false
set_option maxRecDepth 100000
namespace Go.Proofs.Ytndppafplgilbaa
open Go.RowKit
theorem Turns.drewN (S:Nat→Prop) (w:World) (n:Nat):Turns S w (w.drewN n):=⟨rfl,rfl,rfl,Nat.le_refl _,fun _ _ _=>rfl⟩
theorem IntsIn.turns {w w':World} {a:Option Addr} {l:List Int} (h:IntsIn w a l) (ht:Turns (fun _=>False) w w'):IntsIn w' a l :=
  h.kept fun b _ _ hlt=>ht.block b hlt (fun h=>h)
set_option maxHeartbeats 400000 in
theorem ints_same (a b:Option Addr) (ca cb:Nat) (l:List Int) (w:World) (ha:IntsIn w a l) (hb:IntsIn w b l) (hl:l.length≤9223372036854775807) :
    Calls Try.prog 18 #[.slice a l.length ca,.slice b l.length cb] w fun e w'=>e=.returned (.bool true)∧Turns (fun _=>False) w w':=by
  have Ha:=Lib.hid ha
  have Hb:=Lib.hid hb
  clear ha hb
  go_enter Try.func18,Try.ntmps18
  go_wp2_with fail
  go_loopw [5] (fun i wr=>∃ j:Nat,j≤l.length∧i=.int .i64 j∧Turns (fun _=>False) w wr) (fun i _=>l.length - (intOf i).toNat)
  case atStart=>exact ⟨0,Nat.zero_le _,rfl,Turns.refl _ _⟩
  case round =>
    obtain ⟨j,hj,rfl,ht⟩:=hrel
    by_cases hlt:j < l.length
    · obtain ⟨b1,o1,rfl,h1⟩:=(Ha.out.turns ht) j hlt
      obtain ⟨b2,o2,rfl,h2⟩:=(Hb.out.turns ht) j hlt
      have Ht:=Lib.hid ht
      clear ht
      have j0:(0:Int)≤(j:Int):=by omega
      have j1:(j:Int) < (l.length:Int):=by omega
      go_wp2_with fail
      go_quiet (fail)
      go_wp2
      go_roundw
      case rel=>exact ⟨j + 1,by omega,by go_num,Ht.out.trans (Turns.drewN _ _ _)⟩
      case measure=>simp [intOf];omega
    · have Ht:=Lib.hid ht
      clear ht
      go_wp2
      go_ret
      exact ⟨rfl,Ht.out⟩
theorem ints_same' (a b:Option Addr) (n m ca cb:Nat) (l:List Int) (w:World) (hn:n=l.length) (hm:m=l.length) (ha:IntsIn w a l) (hb:IntsIn w b l) (hl:l.length≤9223372036854775807) :
    Calls Try.prog 18 #[.slice a n ca,.slice b m cb] w fun e w'=>e=.returned (.bool true)∧Turns (fun _=>False) w w':=by
  subst hn
  subst hm
  exact ints_same a b ca cb l w ha hb hl
end Go.Proofs.Ytndppafplgilbaa
