/- The laws of this seat: each returns true for every input, and its arguments read as they did. -/
import Derived.Test.YtdbcomcockkkbaaGreatRows
import Derived.ProofKit
import Derived.SizedLaws
import Derived.Test.YtdbcomcockkkbaaGreatMaE
set_option linter.unusedSimpArgs false
set_option linter.unusedVariables false
namespace Go.Proofs.YtdbcomcockkkbaaGreat
open Go.ChangeShapes Go.WideShapes Go.ChangeAt Go.RowKit Go.AX Go.AX.Ty
theorem own : ownKnob Tryz.prog.godebug = none := by kernel_rfl
theorem laidOut : laidOutB Tryz.prog = true := by kernel_rfl
theorem rdStr : Reads Tryz.prog 9 Str := reads_str Tryz.underlying9
theorem rdAttr : Reads Tryz.prog 94 Ty.Attr := reads_Attr Tryz.underlying94 (by kernel_rfl) (by kernel_rfl) rdStr rdStr
theorem rdLAttrL : Reads Tryz.prog 85 (List Ty.Attr) := fun n => reads_slice Tryz.underlying85 (by kernel_rfl) (by decide) (of_decide_eq_true (by kernel_rfl)) fun m _ => rdAttr m
theorem rdInt : Reads Tryz.prog 3 Int := reads_int Tryz.underlying3
theorem rdLIntL : Reads Tryz.prog 52 (List Int) := fun n => reads_slice Tryz.underlying52 (by kernel_rfl) (by decide) (of_decide_eq_true (by kernel_rfl)) fun m _ => rdInt m
theorem rdNode : Reads Tryz.prog 87 Ty.Node := reads_Node Tryz.underlying87 (by kernel_rfl) (by kernel_rfl) rdStr rdLAttrL rdStr rdInt rdLIntL
theorem rdPage : Reads Tryz.prog 23 (List Ty.Node) := fun n => reads_slice Tryz.underlying23 (by kernel_rfl) (by decide) (of_decide_eq_true (by kernel_rfl)) fun m _ => rdNode m
theorem rdSimple : Reads Tryz.prog 39 Ty.Simple := reads_Simple Tryz.underlying39 (by kernel_rfl) (by kernel_rfl) (of_decide_eq_true (by kernel_rfl)) rdInt rdStr rdStr rdInt rdInt Tryz.underlying34
theorem rdLSimpleL : Reads Tryz.prog 34 (List Ty.Simple) := fun n => reads_slice Tryz.underlying34 (by kernel_rfl) (by decide) (of_decide_eq_true (by kernel_rfl)) fun m _ => rdSimple m
theorem rdPart : Reads Tryz.prog 36 Ty.Part := reads_Part Tryz.underlying36 (by kernel_rfl) (by kernel_rfl) rdInt rdLSimpleL
theorem rdLPartL : Reads Tryz.prog 29 (List Ty.Part) := fun n => reads_slice Tryz.underlying29 (by kernel_rfl) (by decide) (of_decide_eq_true (by kernel_rfl)) fun m _ => rdPart m
theorem rdComplex : Reads Tryz.prog 31 Ty.Complex := reads_Complex Tryz.underlying31 (by kernel_rfl) (by kernel_rfl) rdLPartL rdStr
set_option maxRecDepth 100000 in
theorem maybeExact_lifted (os : Os) (started : os.Started) (H : Type) (enc : TypeId × Value → H) :
    ReturnsInHanded {} Tryz.checked os 5 .any (Rows.maybeExactSpec.pre6 enc Tryz.prog Tryz.f5 Rows.maybeExactRow.domain false) (Rows.maybeExactSpec.post enc Tryz.prog Tryz.f5 false true false false) := by
  refine returnsInHanded_of_change_sized (C := Tryz.checked) own started (by kernel_rfl) Tryz.func5
    (ChangeSpec.witness6 (enc := enc) (C := Tryz.checked) false ⟨#[], #[.slice none 0 0, .agg #[.slice none 0 0, .string ⟨#[]⟩]], []⟩ 20 (by kernel_rfl) (by kernel_rfl) (by kernel_rfl) (by kernel_rfl)) ?_
  intro W base args ds gs before hval0 hW hcnd hsz0 _
  have hval : ∀ (j : Nat) t v, Tryz.f5.params[j]? = some t → args[j]? = some v → Value.okWide Tryz.prog W .any base t v := hval0
  have hW' := hW
  obtain ⟨p, q, hA0, hV, rfl, hfz, hnd⟩ := hW
  have hA : DataW.TrodAll enc Tryz.prog W 0 (fun _ => true) true Tryz.f5.params.toList args.toList ds p := hA0
  have hsz : (DataW.weightsEach Tryz.prog (Tryz.f5.params.toList ++ []) (ds ++ gs)).all (· ≤ reachBytes) = true := hsz0
  obtain ⟨rfl, rfl⟩ := trodVars_none hV
  rw [Tryz.params5] at hA hval hsz
  obtain ⟨v0, v1, d0, d1, p0, p1, rfl, rfl, rfl, h0, h1⟩ := trodAll_two hA
  simp only [List.append_nil] at hsz
  obtain ⟨a0, r0, o0⟩ := read_one rdPage Tryz.underlying23 (.inr (.inr (.inr ⟨_, rfl⟩))) (fun _ => rfl) (hval 0 _ v0 rfl rfl) h0 (wOk_each hsz 0 _ d0 rfl rfl)
  obtain ⟨a1, r1, o1⟩ := read_agg rdComplex (.inl ⟨_, Tryz.underlying31⟩) (fun _ => rfl) (hval 1 _ v1 rfl rfl) h1 (wOk_each hsz 1 _ d1 rfl rfl)
  refine (calls_true ((W14.w_MaybeExact a0 a1 o0 o1).1) (repL2 r0 r1)).mono fun e W' ⟨he, hb⟩ => ?_
  exact ⟨_, he, post_true (tb := 4) laidOut (by kernel_rfl) rfl (by kernel_rfl) (by kernel_rfl) ⟨rfl, rfl, rfl⟩ hW' hb⟩
theorem maybeExact_holds : Rows.MaybeExactSaid :=
  OpenClaim.holds_of_wide 5 Tryz.f5 rfl rfl rfl rfl rfl rfl rfl ⟨rfl, rfl, rfl, rfl, rfl⟩ rfl rfl rfl rfl rfl (by kernel_rfl) Tryz.func5 (by kernel_rfl)
    (of_decide_eq_true (by kernel_rfl)) (by unfold Func.isWrapper; rw [if_neg (by decide +kernel)]; exact ⟨rfl, rfl⟩)
    (fun os started H enc _ => maybeExact_lifted os started H enc)
end Go.Proofs.YtdbcomcockkkbaaGreat
