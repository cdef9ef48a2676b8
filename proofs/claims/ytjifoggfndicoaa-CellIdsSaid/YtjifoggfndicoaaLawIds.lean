/-
  DERIVED. 'larch/larchlaw02.CellIds' RETURNS TRUE FOR EVERY INPUT: no condition. The row: the walk 'cellids_law' behind the arguments opened.
-/
import Derived.Test.YtjifoggfndicoaaIdsLaw
import Derived.Test.YtjifoggfndicoaaShut
namespace Go.Proofs.Ytjifoggfndicoaa.cellIds
open Go.ChangeShapes Go.WideShapes Go.ChangeAt Go.RowKit
open Go.ChangeMaps (open_string shut_string)

theorem own : ownKnob Try.prog.godebug = none := by kernel_rfl
theorem laidOut : laidOutB Try.prog = true := by kernel_rfl
theorem paramsOk : ∀ t ∈ Try.f9.params.toList, Try.prog.readableRec t = true ∧ t < Try.prog.types.size := by
  have h : (Try.f9.params.toList.all fun t => Try.prog.readableRec t && decide (t < Try.prog.types.size)) = true := by kernel_rfl
  intro t ht
  have := List.all_eq_true.1 h t ht
  simpa using this

set_option maxRecDepth 100000 in
theorem lifted (os : Os) (started : os.Started) (H : Type) (enc : TypeId × Value → H) :
    ReturnsInHanded {} Try.checked os 9 .any (Rows.cellIdsSpec.pre6 enc Try.prog Try.f9 Rows.cellIdsRow.domain false) (Rows.cellIdsSpec.post enc Try.prog Try.f9 false true false false) := by
  refine returnsInHanded_of_change_sized (C := Try.checked) own started (by kernel_rfl) Try.func9
    (ChangeSpec.witness6 (enc := enc) (C := Try.checked) false ⟨#[], #[.slice none 0 0, .int .i64 0, .slice none 0 0], []⟩ 8 (by kernel_rfl) (by kernel_rfl) (by kernel_rfl) (by kernel_rfl)) ?_
  intro W base args ds gs before hval0 hW hcnd hsz _
  have hval : ∀ (j : Nat) t v, Try.f9.params[j]? = some t → args[j]? = some v → Value.okWide Try.prog W .any base t v := hval0
  have hW' := hW
  obtain ⟨p, q, hA0, hV, rfl, hfz, hnd⟩ := hW
  have hA : DataW.TrodAll enc Try.prog W 0 (fun _ => true) true Try.f9.params.toList args.toList ds p := hA0
  rw [Try.params9] at hA hval
  obtain ⟨v0, vs0, d0, ds0, p0, q0, hargs, rfl, rfl, h0, r0'⟩ := trodAll_cons hA
  obtain ⟨v1, vs1, d1, ds1, p1, q1, rfl, rfl, rfl, h1, r1'⟩ := trodAll_cons r0'
  obtain ⟨v2, vs2, d2, ds2, p2, q2, rfl, rfl, rfl, h2, r2'⟩ := trodAll_cons r1'
  obtain ⟨rfl, rfl, rfl⟩ := trodAll_nil r2'
  obtain rfl : args = #[v0, v1, v2] := by cases args; simp_all
  obtain ⟨rfl, rfl⟩ := trodVars_none hV
  have hts := paramsOk
  obtain ⟨a0, c0, l0, s0, rfl, r0, w0, e0⟩ := open_intsIn Try.underlying22 Try.underlying3 (by kernel_rfl) (hval 0 22 v0 rfl rfl) h0
  obtain ⟨x1, rfl, rfl, rfl, w1⟩ := open_int Try.underlying3 (hval 1 3 v1 rfl rfl) h1
  obtain ⟨a2, c2, l2, rfl, r2, w2, e2⟩ := open_acts Try.underlying23 Try.underlying47 Try.underlying3 (by kernel_rfl) (by kernel_rfl) rfl rfl rfl rfl (hval 2 23 v2 rfl rfl) h2
  have hw0 : (DataW.weightsEach Try.prog (Try.f9.params.toList ++ []) ([d0, (.lit (.int .i64 x1)), d2] ++ [])).all (· ≤ reachBytes) = true := hsz
  rw [List.append_nil, List.append_nil] at hw0
  have hw : ∀ x ∈ DataW.weightsEach Try.prog Try.f9.params.toList [d0, (.lit (.int .i64 x1)), d2], x ≤ reachBytes := fun x hx => by simpa using List.all_eq_true.1 hw0 x hx
  rw [Try.params9] at hw
  have z0 : l0.length * 8 ≤ 140737488351232 := ints_bound Try.underlying22 (by kernel_rfl) e0 (fun x hx => hw x (by simp [DataW.weightsEach, hx]))
  have z2 : l2.length * 32 ≤ 140737488351232 := acts_bound Try.underlying23 (by kernel_rfl) e2 (fun x hx => hw x (by simp [DataW.weightsEach, hx]))
  refine (cellids_law a0 c0 l0 r0 w0 z0 x1 w1 a2 c2 l2 r2 w2 z2 W rfl).mono fun e W' ⟨he, hb⟩ => ?_
  subst he
  exact ⟨_, rfl, law_post hW' rfl rfl rfl Try.underlying4 laidOut hts hb⟩

theorem over : Rows.cellIdsRow.holds Try.pinned (OpenSpec.ofChange Rows.cellIdsSpec) :=
  OpenClaim.holds_of_wide 9 Try.f9 rfl rfl rfl rfl rfl rfl rfl ⟨rfl, rfl, rfl, rfl, rfl⟩ rfl rfl rfl rfl rfl (by kernel_rfl) Try.func9 (by kernel_rfl)
    (of_decide_eq_true (by kernel_rfl)) (by unfold Func.isWrapper; first | (rw [if_pos (by decide +kernel)]; kernel_rfl) | (rw [if_neg (by decide +kernel)]; exact ⟨rfl, rfl⟩))
    (fun os started H enc _ => lifted os started H enc)

theorem proved : Rows.CellIdsSaid := over
#print axioms proved
end Go.Proofs.Ytjifoggfndicoaa.cellIds
