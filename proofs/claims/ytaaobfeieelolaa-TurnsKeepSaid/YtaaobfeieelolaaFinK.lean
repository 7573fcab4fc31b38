/- The laws of this seat: each returns true for every input, and its arguments read as they did. -/
import Derived.Test.YtaaobfeieelolaaRows
import Derived.ProofKit
import Derived.SizedLaws
import Derived.Test.YtaaobfeieelolaaTxF
set_option linter.unusedSimpArgs false
set_option linter.unusedVariables false
namespace Go.Proofs.Ytaaobfeieelolaa
open Go.ChangeShapes Go.WideShapes Go.ChangeAt Go.RowKit Go.AX Go.AX.Ty
theorem own : ownKnob Try.prog.godebug = none := by kernel_rfl
theorem laidOut : laidOutB Try.prog = true := by kernel_rfl
theorem rdStr : Reads Try.prog 9 Str := reads_str Try.underlying9
theorem rdAttr : Reads Try.prog 57 Ty.Attr := reads_Attr Try.underlying57 (by kernel_rfl) (by kernel_rfl) rdStr rdStr
theorem rdLAttrL : Reads Try.prog 43 (List Ty.Attr) := fun n => reads_slice Try.underlying43 (by kernel_rfl) (by decide) (of_decide_eq_true (by kernel_rfl)) fun m _ => rdAttr m
theorem rdInt : Reads Try.prog 3 Int := reads_int Try.underlying3
theorem rdLIntL : Reads Try.prog 44 (List Int) := fun n => reads_slice Try.underlying44 (by kernel_rfl) (by decide) (of_decide_eq_true (by kernel_rfl)) fun m _ => rdInt m
theorem rdNode : Reads Try.prog 46 Ty.Node := reads_Node Try.underlying46 (by kernel_rfl) (by kernel_rfl) rdStr rdLAttrL rdStr rdInt rdLIntL
theorem rdPage : Reads Try.prog 26 (List Ty.Node) := fun n => reads_slice Try.underlying26 (by kernel_rfl) (by decide) (of_decide_eq_true (by kernel_rfl)) fun m _ => rdNode m
theorem rdTurn : Reads Try.prog 34 Ty.Turn := reads_Turn Try.underlying34 (by kernel_rfl) (by kernel_rfl) rdInt rdInt rdStr rdStr
set_option maxRecDepth 100000 in
theorem turnsKeep_lifted (os : Os) (started : os.Started) (H : Type) (enc : TypeId × Value → H) :
    ReturnsInHanded {} Try.checked os 4 .any (Rows.turnsKeepSpec.pre6 enc Try.prog Try.f4 Rows.turnsKeepRow.domain false) (Rows.turnsKeepSpec.post enc Try.prog Try.f4 false true false false) := by
  refine returnsInHanded_of_change_sized (C := Try.checked) own started (by kernel_rfl) Try.func4
    (ChangeSpec.witness6 (enc := enc) (C := Try.checked) false ⟨#[], #[.slice none 0 0, .agg #[.int .i64 0, .int .i64 0, .string ⟨#[]⟩, .string ⟨#[]⟩], .string ⟨#[]⟩], []⟩ 20 (by kernel_rfl) (by kernel_rfl) (by kernel_rfl) (by kernel_rfl)) ?_
  intro W base args ds gs before hval0 hW hcnd hsz0 _
  have hval : ∀ (j : Nat) t v, Try.f4.params[j]? = some t → args[j]? = some v → Value.okWide Try.prog W .any base t v := hval0
  have hW' := hW
  obtain ⟨p, q, hA0, hV, rfl, hfz, hnd⟩ := hW
  have hA : DataW.TrodAll enc Try.prog W 0 (fun _ => true) true Try.f4.params.toList args.toList ds p := hA0
  have hsz : (DataW.weightsEach Try.prog (Try.f4.params.toList ++ []) (ds ++ gs)).all (· ≤ reachBytes) = true := hsz0
  obtain ⟨rfl, rfl⟩ := trodVars_none hV
  rw [Try.params4] at hA hval hsz
  obtain ⟨v0, v1, v2, d0, d1, d2, p0, p1, p2, rfl, rfl, rfl, h0, h1, h2⟩ := trodAll_three hA
  simp only [List.append_nil] at hsz
  obtain ⟨a0, r0, o0⟩ := read_one rdPage Try.underlying26 (.inr (.inr (.inr ⟨_, rfl⟩))) (fun _ => rfl) (hval 0 _ v0 rfl rfl) h0 (wOk_each hsz 0 _ d0 rfl rfl)
  obtain ⟨a1, r1, o1⟩ := read_agg rdTurn (.inl ⟨_, Try.underlying34⟩) (fun _ => rfl) (hval 1 _ v1 rfl rfl) h1 (wOk_each hsz 1 _ d1 rfl rfl)
  obtain ⟨a2, r2, o2⟩ := read_one rdStr Try.underlying9 (.inr (.inr (.inl rfl))) (fun _ => rfl) (hval 2 _ v2 rfl rfl) h2 (wOk_each hsz 2 _ d2 rfl rfl)
  refine (calls_true ((W11.w_TurnsKeep a0 a1 a2 o0 o1).1) (repL3 r0 r1 r2)).mono fun e W' ⟨he, hb⟩ => ?_
  exact ⟨_, he, post_true (tb := 4) laidOut (by kernel_rfl) rfl (by kernel_rfl) (by kernel_rfl) ⟨rfl, rfl, rfl⟩ hW' hb⟩
theorem turnsKeep_holds : Rows.TurnsKeepSaid :=
  OpenClaim.holds_of_wide 4 Try.f4 rfl rfl rfl rfl rfl rfl rfl ⟨rfl, rfl, rfl, rfl, rfl⟩ rfl rfl rfl rfl rfl (by kernel_rfl) Try.func4 (by kernel_rfl)
    (of_decide_eq_true (by kernel_rfl)) (by unfold Func.isWrapper; rw [if_neg (by decide +kernel)]; exact ⟨rfl, rfl⟩)
    (fun os started H enc _ => turnsKeep_lifted os started H enc)
set_option maxRecDepth 100000 in
theorem turnsApart_lifted (os : Os) (started : os.Started) (H : Type) (enc : TypeId × Value → H) :
    ReturnsInHanded {} Try.checked os 5 .any (Rows.turnsApartSpec.pre6 enc Try.prog Try.f5 Rows.turnsApartRow.domain false) (Rows.turnsApartSpec.post enc Try.prog Try.f5 false true false false) := by
  refine returnsInHanded_of_change_sized (C := Try.checked) own started (by kernel_rfl) Try.func5
    (ChangeSpec.witness6 (enc := enc) (C := Try.checked) false ⟨#[], #[.slice none 0 0, .agg #[.int .i64 0, .int .i64 0, .string ⟨#[]⟩, .string ⟨#[]⟩], .agg #[.int .i64 0, .int .i64 0, .string ⟨#[]⟩, .string ⟨#[]⟩]], []⟩ 20 (by kernel_rfl) (by kernel_rfl) (by kernel_rfl) (by kernel_rfl)) ?_
  intro W base args ds gs before hval0 hW hcnd hsz0 _
  have hval : ∀ (j : Nat) t v, Try.f5.params[j]? = some t → args[j]? = some v → Value.okWide Try.prog W .any base t v := hval0
  have hW' := hW
  obtain ⟨p, q, hA0, hV, rfl, hfz, hnd⟩ := hW
  have hA : DataW.TrodAll enc Try.prog W 0 (fun _ => true) true Try.f5.params.toList args.toList ds p := hA0
  have hsz : (DataW.weightsEach Try.prog (Try.f5.params.toList ++ []) (ds ++ gs)).all (· ≤ reachBytes) = true := hsz0
  obtain ⟨rfl, rfl⟩ := trodVars_none hV
  rw [Try.params5] at hA hval hsz
  obtain ⟨v0, v1, v2, d0, d1, d2, p0, p1, p2, rfl, rfl, rfl, h0, h1, h2⟩ := trodAll_three hA
  simp only [List.append_nil] at hsz
  obtain ⟨a0, r0, o0⟩ := read_one rdPage Try.underlying26 (.inr (.inr (.inr ⟨_, rfl⟩))) (fun _ => rfl) (hval 0 _ v0 rfl rfl) h0 (wOk_each hsz 0 _ d0 rfl rfl)
  obtain ⟨a1, r1, o1⟩ := read_agg rdTurn (.inl ⟨_, Try.underlying34⟩) (fun _ => rfl) (hval 1 _ v1 rfl rfl) h1 (wOk_each hsz 1 _ d1 rfl rfl)
  obtain ⟨a2, r2, o2⟩ := read_agg rdTurn (.inl ⟨_, Try.underlying34⟩) (fun _ => rfl) (hval 2 _ v2 rfl rfl) h2 (wOk_each hsz 2 _ d2 rfl rfl)
  refine (calls_true ((W11.w_TurnsApart a0 a1 a2 o0 o1 o2).1) (repL3 r0 r1 r2)).mono fun e W' ⟨he, hb⟩ => ?_
  exact ⟨_, he, post_true (tb := 4) laidOut (by kernel_rfl) rfl (by kernel_rfl) (by kernel_rfl) ⟨rfl, rfl, rfl⟩ hW' hb⟩
theorem turnsApart_holds : Rows.TurnsApartSaid :=
  OpenClaim.holds_of_wide 5 Try.f5 rfl rfl rfl rfl rfl rfl rfl ⟨rfl, rfl, rfl, rfl, rfl⟩ rfl rfl rfl rfl rfl (by kernel_rfl) Try.func5 (by kernel_rfl)
    (of_decide_eq_true (by kernel_rfl)) (by unfold Func.isWrapper; rw [if_neg (by decide +kernel)]; exact ⟨rfl, rfl⟩)
    (fun os started H enc _ => turnsApart_lifted os started H enc)
set_option maxRecDepth 100000 in
theorem turnsBack_lifted (os : Os) (started : os.Started) (H : Type) (enc : TypeId × Value → H) :
    ReturnsInHanded {} Try.checked os 6 .any (Rows.turnsBackSpec.pre6 enc Try.prog Try.f6 Rows.turnsBackRow.domain false) (Rows.turnsBackSpec.post enc Try.prog Try.f6 false true false false) := by
  refine returnsInHanded_of_change_sized (C := Try.checked) own started (by kernel_rfl) Try.func6
    (ChangeSpec.witness6 (enc := enc) (C := Try.checked) false ⟨#[], #[.slice none 0 0, .int .i64 0, .string ⟨#[]⟩], []⟩ 20 (by kernel_rfl) (by kernel_rfl) (by kernel_rfl) (by kernel_rfl)) ?_
  intro W base args ds gs before hval0 hW hcnd hsz0 _
  have hval : ∀ (j : Nat) t v, Try.f6.params[j]? = some t → args[j]? = some v → Value.okWide Try.prog W .any base t v := hval0
  have hW' := hW
  obtain ⟨p, q, hA0, hV, rfl, hfz, hnd⟩ := hW
  have hA : DataW.TrodAll enc Try.prog W 0 (fun _ => true) true Try.f6.params.toList args.toList ds p := hA0
  have hsz : (DataW.weightsEach Try.prog (Try.f6.params.toList ++ []) (ds ++ gs)).all (· ≤ reachBytes) = true := hsz0
  obtain ⟨rfl, rfl⟩ := trodVars_none hV
  rw [Try.params6] at hA hval hsz
  obtain ⟨v0, v1, v2, d0, d1, d2, p0, p1, p2, rfl, rfl, rfl, h0, h1, h2⟩ := trodAll_three hA
  simp only [List.append_nil] at hsz
  obtain ⟨a0, r0, o0⟩ := read_one rdPage Try.underlying26 (.inr (.inr (.inr ⟨_, rfl⟩))) (fun _ => rfl) (hval 0 _ v0 rfl rfl) h0 (wOk_each hsz 0 _ d0 rfl rfl)
  obtain ⟨a1, r1, o1⟩ := read_one rdInt Try.underlying3 (.inl ⟨_, rfl⟩) (fun _ => rfl) (hval 1 _ v1 rfl rfl) h1 (wOk_each hsz 1 _ d1 rfl rfl)
  obtain ⟨a2, r2, o2⟩ := read_one rdStr Try.underlying9 (.inr (.inr (.inl rfl))) (fun _ => rfl) (hval 2 _ v2 rfl rfl) h2 (wOk_each hsz 2 _ d2 rfl rfl)
  refine (calls_true ((W11.w_TurnsBack a0 a1 a2 o0 o1).1) (repL3 r0 r1 r2)).mono fun e W' ⟨he, hb⟩ => ?_
  exact ⟨_, he, post_true (tb := 4) laidOut (by kernel_rfl) rfl (by kernel_rfl) (by kernel_rfl) ⟨rfl, rfl, rfl⟩ hW' hb⟩
theorem turnsBack_holds : Rows.TurnsBackSaid :=
  OpenClaim.holds_of_wide 6 Try.f6 rfl rfl rfl rfl rfl rfl rfl ⟨rfl, rfl, rfl, rfl, rfl⟩ rfl rfl rfl rfl rfl (by kernel_rfl) Try.func6 (by kernel_rfl)
    (of_decide_eq_true (by kernel_rfl)) (by unfold Func.isWrapper; rw [if_neg (by decide +kernel)]; exact ⟨rfl, rfl⟩)
    (fun os started H enc _ => turnsBack_lifted os started H enc)
end Go.Proofs.Ytaaobfeieelolaa
