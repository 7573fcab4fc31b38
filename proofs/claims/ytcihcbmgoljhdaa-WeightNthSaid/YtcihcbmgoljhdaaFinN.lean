/- The row of WeightNth. -/
import Derived.Test.YtcihcbmgoljhdaaRows
import Derived.ProofKit
import Derived.Test.YtcihcbmgoljhdaaWts
set_option linter.unusedSimpArgs false
set_option linter.unusedVariables false
namespace Go.Proofs.Ytcihcbmgoljhdaa
open Go.ChangeShapes Go.WideShapes Go.ChangeAt Go.RowKit Go.AX

theorem own : ownKnob Try.prog.godebug = none := by kernel_rfl
theorem laidOut : laidOutB Try.prog = true := by kernel_rfl

set_option maxRecDepth 100000 in
theorem nth_lifted (os : Os) (started : os.Started) (H : Type) (enc : TypeId × Value → H) :
    ReturnsInHanded {} Try.checked os 6 .any (Rows.weightNthSpec.pre6 enc Try.prog Try.f6 Rows.weightNthRow.domain false) (Rows.weightNthSpec.post enc Try.prog Try.f6 false true false false) := by
  refine returnsInHanded_of_change (C := Try.checked) own started (by kernel_rfl) Try.func6
    (ChangeSpec.witness6 (enc := enc) (C := Try.checked) false ⟨#[], #[.int .i64 0, .int .i64 0, .int .i64 0], []⟩ 8 (by kernel_rfl) (by kernel_rfl) (by kernel_rfl) (by kernel_rfl)) ?_
  intro W base args ds gs before hval0 hW hcnd _
  have hval : ∀ (j : Nat) t v, Try.f6.params[j]? = some t → args[j]? = some v → Value.okWide Try.prog W .any base t v := hval0
  have hW' := hW
  obtain ⟨p, q, hA0, hV, rfl, hfz, hnd⟩ := hW
  have hA : DataW.TrodAll enc Try.prog W 0 (fun _ => true) true Try.f6.params.toList args.toList ds p := hA0
  rw [Try.params6] at hA hval
  obtain ⟨v0, v1, v2, d0, d1, d2, p0, p1, p2, rfl, rfl, rfl, h0, h1, h2⟩ := trodAll_three hA
  obtain ⟨a, ra, oa⟩ := read_one (reads_int Try.underlying3) Try.underlying3 (.inl ⟨_, rfl⟩) (fun _ => rfl) (hval 0 _ v0 rfl rfl) h0
  obtain ⟨b, rb, ob⟩ := read_one (reads_int Try.underlying3) Try.underlying3 (.inl ⟨_, rfl⟩) (fun _ => rfl) (hval 1 _ v1 rfl rfl) h1
  obtain ⟨c, rc, oc⟩ := read_one (reads_int Try.underlying3) Try.underlying3 (.inl ⟨_, rfl⟩) (fun _ => rfl) (hval 2 _ v2 rfl rfl) h2
  obtain ⟨rfl, rfl⟩ := trodVars_none hV
  refine (calls_true (W06.w6 a b c) (repL3 ra rb rc)).mono fun e W' ⟨he, hb⟩ => ?_
  exact ⟨_, he, post_true (tb := 4) laidOut (by kernel_rfl) rfl (by kernel_rfl) (by kernel_rfl) ⟨rfl, rfl, rfl⟩ hW' hb⟩

theorem weightNth_holds : Rows.WeightNthSaid :=
  OpenClaim.holds_of_wide 6 Try.f6 rfl rfl rfl rfl rfl rfl rfl ⟨rfl, rfl, rfl, rfl, rfl⟩ rfl rfl rfl rfl rfl (by kernel_rfl) Try.func6 (by kernel_rfl)
    (of_decide_eq_true (by kernel_rfl)) (by unfold Func.isWrapper; rw [if_neg (by decide +kernel)]; exact ⟨rfl, rfl⟩)
    (fun os started H enc _ => nth_lifted os started H enc)
end Go.Proofs.Ytcihcbmgoljhdaa
