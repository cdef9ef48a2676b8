/-
  DERIVED. 'larch/larchlaw01.WordApart' RETURNS TRUE FOR EVERY INPUT: no condition. The row: the walk 'apart_law' behind the arguments opened.
-/
import Derived.Test.YtfkhflknigemgaaGreatApart
import Derived.Test.YtfkhflknigemgaaGreatShut3
namespace Go.Proofs.YtfkhflknigemgaaGreat.wordApart
open Go.ChangeShapes Go.WideShapes Go.ChangeAt Go.RowKit
open Go.ChangeMaps (open_string shut_string)

theorem own : ownKnob Tryz.prog.godebug = none := by kernel_rfl
theorem laidOut : laidOutB Tryz.prog = true := by kernel_rfl
theorem paramsOk : ∀ t ∈ Tryz.f4.params.toList, Tryz.prog.readableRec t = true ∧ t < Tryz.prog.types.size := by
  have h : (Tryz.f4.params.toList.all fun t => Tryz.prog.readableRec t && decide (t < Tryz.prog.types.size)) = true := by kernel_rfl
  intro t ht
  have := List.all_eq_true.1 h t ht
  simpa using this

set_option maxRecDepth 100000 in
theorem lifted (os : Os) (started : os.Started) (H : Type) (enc : TypeId × Value → H) :
    ReturnsInHanded {} Tryz.checked os 4 .any (Rows.wordApartSpec.pre6 enc Tryz.prog Tryz.f4 Rows.wordApartRow.domain false) (Rows.wordApartSpec.post enc Tryz.prog Tryz.f4 false true false false) := by
  refine returnsInHanded_of_change_sized (C := Tryz.checked) own started (by kernel_rfl) Tryz.func4
    (ChangeSpec.witness6 (enc := enc) (C := Tryz.checked) false ⟨#[], #[.int .i64 0, .int .u64 0, .slice none 0 0], []⟩ 8 (by kernel_rfl) (by kernel_rfl) (by kernel_rfl) (by kernel_rfl)) ?_
  intro W base args ds gs before hval0 hW hcnd hsz _
  have hval : ∀ (j : Nat) t v, Tryz.f4.params[j]? = some t → args[j]? = some v → Value.okWide Tryz.prog W .any base t v := hval0
  have hW' := hW
  obtain ⟨p, q, hA0, hV, rfl, hfz, hnd⟩ := hW
  have hA : DataW.TrodAll enc Tryz.prog W 0 (fun _ => true) true Tryz.f4.params.toList args.toList ds p := hA0
  rw [Tryz.params4] at hA hval
  obtain ⟨v0, vs0, d0, ds0, p0, q0, hargs, rfl, rfl, h0, r0'⟩ := trodAll_cons hA
  obtain ⟨v1, vs1, d1, ds1, p1, q1, rfl, rfl, rfl, h1, r1'⟩ := trodAll_cons r0'
  obtain ⟨v2, vs2, d2, ds2, p2, q2, rfl, rfl, rfl, h2, r2'⟩ := trodAll_cons r1'
  obtain ⟨rfl, rfl, rfl⟩ := trodAll_nil r2'
  obtain rfl : args = #[v0, v1, v2] := by cases args; simp_all
  obtain ⟨rfl, rfl⟩ := trodVars_none hV
  have hts := paramsOk
  obtain ⟨x0, rfl, rfl, rfl, w0⟩ := open_int Tryz.underlying3 (hval 0 3 v0 rfl rfl) h0
  obtain ⟨x1, rfl, rfl, rfl, w1⟩ := open_int Tryz.underlying22 (hval 1 22 v1 rfl rfl) h1
  obtain ⟨a2, c2, l2, rfl, m2, r2, w2, e2⟩ := open_acts3 Tryz.underlying23 Tryz.underlying45 Tryz.underlying3 Tryz.underlying22 (by kernel_rfl) (by kernel_rfl) rfl rfl rfl (hval 2 23 v2 rfl rfl) h2
  have hw0 : (DataW.weightsEach Tryz.prog (Tryz.f4.params.toList ++ []) ([(.lit (.int .i64 x0)), (.lit (.int .u64 x1)), d2] ++ [])).all (· ≤ reachBytes) = true := hsz
  rw [List.append_nil, List.append_nil] at hw0
  have hw : ∀ x ∈ DataW.weightsEach Tryz.prog Tryz.f4.params.toList [(.lit (.int .i64 x0)), (.lit (.int .u64 x1)), d2], x ≤ reachBytes := fun x hx => by simpa using List.all_eq_true.1 hw0 x hx
  rw [Tryz.params4] at hw
  have z2 : l2.length * 24 ≤ 140737488351232 := acts3_bound Tryz.underlying23 (by kernel_rfl) e2 (fun x hx => hw x (by simp [DataW.weightsEach, hx]))
  refine (apart_law x0 w0 x1 w1 a2 c2 l2 m2 r2 w2 z2 W rfl).mono fun e W' ⟨he, hb⟩ => ?_
  subst he
  exact ⟨_, rfl, law_post hW' rfl rfl rfl Tryz.underlying4 laidOut hts hb⟩

theorem over : Rows.wordApartRow.holds Tryz.pinned (OpenSpec.ofChange Rows.wordApartSpec) :=
  OpenClaim.holds_of_wide 4 Tryz.f4 rfl rfl rfl rfl rfl rfl rfl ⟨rfl, rfl, rfl, rfl, rfl⟩ rfl rfl rfl rfl rfl (by kernel_rfl) Tryz.func4 (by kernel_rfl)
    (of_decide_eq_true (by kernel_rfl)) (by unfold Func.isWrapper; first | (rw [if_pos (by decide +kernel)]; kernel_rfl) | (rw [if_neg (by decide +kernel)]; exact ⟨rfl, rfl⟩))
    (fun os started H enc _ => lifted os started H enc)

theorem proved : Rows.WordApartSaid := over
#print axioms proved
end Go.Proofs.YtfkhflknigemgaaGreat.wordApart
