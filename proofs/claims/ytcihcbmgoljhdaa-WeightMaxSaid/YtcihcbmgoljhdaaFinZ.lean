/- The laws of this seat: each returns true for every input, and its arguments read as they did. -/
import Derived.Test.YtcihcbmgoljhdaaRows
import Derived.ProofKit
import Derived.SizedLaws
import Derived.Test.YtcihcbmgoljhdaaWtC
import Derived.Test.YtcihcbmgoljhdaaWtA
set_option linter.unusedSimpArgs false
set_option linter.unusedVariables false
namespace Go.Proofs.Ytcihcbmgoljhdaa
open Go.ChangeShapes Go.WideShapes Go.ChangeAt Go.RowKit Go.AX Go.AX.Ty
theorem own : ownKnob Try.prog.godebug = none := by kernel_rfl
theorem laidOut : laidOutB Try.prog = true := by kernel_rfl
theorem rdInt : Reads Try.prog 3 Int := reads_int Try.underlying3
theorem rdStr : Reads Try.prog 9 Str := reads_str Try.underlying9
theorem rdSimple : Reads Try.prog 45 Simple := reads_Simple Try.underlying45 (by kernel_rfl) (by kernel_rfl) (of_decide_eq_true (by kernel_rfl)) rdInt rdStr rdStr rdInt rdInt Try.underlying41
theorem rdLSimpleL : Reads Try.prog 41 (List Simple) := fun n => reads_slice Try.underlying41 (by kernel_rfl) (by decide) (of_decide_eq_true (by kernel_rfl)) fun m _ => rdSimple m
theorem rdPart : Reads Try.prog 43 Part := reads_Part Try.underlying43 (by kernel_rfl) (by kernel_rfl) rdInt rdLSimpleL
theorem rdLPartL : Reads Try.prog 29 (List Part) := fun n => reads_slice Try.underlying29 (by kernel_rfl) (by decide) (of_decide_eq_true (by kernel_rfl)) fun m _ => rdPart m
theorem rdComplex : Reads Try.prog 31 Complex := reads_Complex Try.underlying31 (by kernel_rfl) (by kernel_rfl) rdLPartL rdStr
theorem rdLComplexL : Reads Try.prog 22 (List Complex) := fun n => reads_slice Try.underlying22 (by kernel_rfl) (by decide) (of_decide_eq_true (by kernel_rfl)) fun m _ => rdComplex m
theorem rdW3 : Reads Try.prog 24 W3 := reads_W3 Try.underlying24 (by kernel_rfl) (by kernel_rfl) rdInt
theorem rdLW3L : Reads Try.prog 23 (List W3) := fun n => reads_slice Try.underlying23 (by kernel_rfl) (by decide) (of_decide_eq_true (by kernel_rfl)) fun m _ => rdW3 m
set_option maxRecDepth 100000 in
theorem weightTells_lifted (os : Os) (started : os.Started) (H : Type) (enc : TypeId × Value → H) :
    ReturnsInHanded {} Try.checked os 3 .any (Rows.weightTellsSpec.pre6 enc Try.prog Try.f3 Rows.weightTellsRow.domain false) (Rows.weightTellsSpec.post enc Try.prog Try.f3 false true false false) := by
  refine returnsInHanded_of_change_sized (C := Try.checked) own started (by kernel_rfl) Try.func3
    (ChangeSpec.witness6 (enc := enc) (C := Try.checked) false ⟨#[], #[.slice none 0 0, .slice none 0 0, .agg #[.int .i64 0, .int .i64 0, .int .i64 0]], []⟩ 20 (by kernel_rfl) (by kernel_rfl) (by kernel_rfl) (by kernel_rfl)) ?_
  intro W base args ds gs before hval0 hW hcnd hsz0 _
  have hval : ∀ (j : Nat) t v, Try.f3.params[j]? = some t → args[j]? = some v → Value.okWide Try.prog W .any base t v := hval0
  have hW' := hW
  obtain ⟨p, q, hA0, hV, rfl, hfz, hnd⟩ := hW
  have hA : DataW.TrodAll enc Try.prog W 0 (fun _ => true) true Try.f3.params.toList args.toList ds p := hA0
  have hsz : (DataW.weightsEach Try.prog (Try.f3.params.toList ++ []) (ds ++ gs)).all (· ≤ reachBytes) = true := hsz0
  obtain ⟨rfl, rfl⟩ := trodVars_none hV
  rw [Try.params3] at hA hval hsz
  obtain ⟨v0, v1, v2, d0, d1, d2, p0, p1, p2, rfl, rfl, rfl, h0, h1, h2⟩ := trodAll_three hA
  simp only [List.append_nil] at hsz
  obtain ⟨a0, r0, o0⟩ := read_one rdLComplexL Try.underlying22 (.inr (.inr (.inr ⟨_, rfl⟩))) (fun _ => rfl) (hval 0 _ v0 rfl rfl) h0 (wOk_each hsz 0 _ d0 rfl rfl)
  obtain ⟨a1, r1, o1⟩ := read_one rdLW3L Try.underlying23 (.inr (.inr (.inr ⟨_, rfl⟩))) (fun _ => rfl) (hval 1 _ v1 rfl rfl) h1 (wOk_each hsz 1 _ d1 rfl rfl)
  obtain ⟨a2, r2, o2⟩ := read_agg rdW3 (.inr ⟨_, _, Try.underlying24⟩) (fun _ => rfl) (hval 2 _ v2 rfl rfl) h2 (wOk_each hsz 2 _ d2 rfl rfl)
  refine (calls_true ((W06.w3 a0 a1 a2 o0 o1 o2).1) (repL3 r0 r1 r2)).mono fun e W' ⟨he, hb⟩ => ?_
  exact ⟨_, he, post_true (tb := 4) laidOut (by kernel_rfl) rfl (by kernel_rfl) (by kernel_rfl) ⟨rfl, rfl, rfl⟩ hW' hb⟩
theorem weightTells_holds : Rows.WeightTellsSaid :=
  OpenClaim.holds_of_wide 3 Try.f3 rfl rfl rfl rfl rfl rfl rfl ⟨rfl, rfl, rfl, rfl, rfl⟩ rfl rfl rfl rfl rfl (by kernel_rfl) Try.func3 (by kernel_rfl)
    (of_decide_eq_true (by kernel_rfl)) (by unfold Func.isWrapper; rw [if_neg (by decide +kernel)]; exact ⟨rfl, rfl⟩)
    (fun os started H enc _ => weightTells_lifted os started H enc)
set_option maxRecDepth 100000 in
theorem weightOrder_lifted (os : Os) (started : os.Started) (H : Type) (enc : TypeId × Value → H) :
    ReturnsInHanded {} Try.checked os 4 .any (Rows.weightOrderSpec.pre6 enc Try.prog Try.f4 Rows.weightOrderRow.domain false) (Rows.weightOrderSpec.post enc Try.prog Try.f4 false true false false) := by
  refine returnsInHanded_of_change_sized (C := Try.checked) own started (by kernel_rfl) Try.func4
    (ChangeSpec.witness6 (enc := enc) (C := Try.checked) false ⟨#[], #[.agg #[.int .i64 0, .int .i64 0, .int .i64 0], .agg #[.int .i64 0, .int .i64 0, .int .i64 0], .agg #[.int .i64 0, .int .i64 0, .int .i64 0]], []⟩ 20 (by kernel_rfl) (by kernel_rfl) (by kernel_rfl) (by kernel_rfl)) ?_
  intro W base args ds gs before hval0 hW hcnd hsz0 _
  have hval : ∀ (j : Nat) t v, Try.f4.params[j]? = some t → args[j]? = some v → Value.okWide Try.prog W .any base t v := hval0
  have hW' := hW
  obtain ⟨p, q, hA0, hV, rfl, hfz, hnd⟩ := hW
  have hA : DataW.TrodAll enc Try.prog W 0 (fun _ => true) true Try.f4.params.toList args.toList ds p := hA0
  have hsz : (DataW.weightsEach Try.prog (Try.f4.params.toList ++ []) (ds ++ gs)).all (· ≤ reachBytes) = true := hsz0
  obtain ⟨rfl, rfl⟩ := trodVars_none hV
  rw [Try.params4] at hA hval hsz
  obtain ⟨v0, v1, v2, d0, d1, d2, p0, p1, p2, rfl, rfl, rfl, h0, h1, h2⟩ := trodAll_three hA
  simp only [List.append_nil] at hsz
  obtain ⟨a0, r0, o0⟩ := read_agg rdW3 (.inr ⟨_, _, Try.underlying24⟩) (fun _ => rfl) (hval 0 _ v0 rfl rfl) h0 (wOk_each hsz 0 _ d0 rfl rfl)
  obtain ⟨a1, r1, o1⟩ := read_agg rdW3 (.inr ⟨_, _, Try.underlying24⟩) (fun _ => rfl) (hval 1 _ v1 rfl rfl) h1 (wOk_each hsz 1 _ d1 rfl rfl)
  obtain ⟨a2, r2, o2⟩ := read_agg rdW3 (.inr ⟨_, _, Try.underlying24⟩) (fun _ => rfl) (hval 2 _ v2 rfl rfl) h2 (wOk_each hsz 2 _ d2 rfl rfl)
  refine (calls_true ((W06.w4 a0 a1 a2).1) (repL3 r0 r1 r2)).mono fun e W' ⟨he, hb⟩ => ?_
  exact ⟨_, he, post_true (tb := 4) laidOut (by kernel_rfl) rfl (by kernel_rfl) (by kernel_rfl) ⟨rfl, rfl, rfl⟩ hW' hb⟩
theorem weightOrder_holds : Rows.WeightOrderSaid :=
  OpenClaim.holds_of_wide 4 Try.f4 rfl rfl rfl rfl rfl rfl rfl ⟨rfl, rfl, rfl, rfl, rfl⟩ rfl rfl rfl rfl rfl (by kernel_rfl) Try.func4 (by kernel_rfl)
    (of_decide_eq_true (by kernel_rfl)) (by unfold Func.isWrapper; rw [if_neg (by decide +kernel)]; exact ⟨rfl, rfl⟩)
    (fun os started H enc _ => weightOrder_lifted os started H enc)
set_option maxRecDepth 100000 in
theorem weightAdds_lifted (os : Os) (started : os.Started) (H : Type) (enc : TypeId × Value → H) :
    ReturnsInHanded {} Try.checked os 5 .any (Rows.weightAddsSpec.pre6 enc Try.prog Try.f5 Rows.weightAddsRow.domain false) (Rows.weightAddsSpec.post enc Try.prog Try.f5 false true false false) := by
  refine returnsInHanded_of_change_sized (C := Try.checked) own started (by kernel_rfl) Try.func5
    (ChangeSpec.witness6 (enc := enc) (C := Try.checked) false ⟨#[], #[.agg #[.slice none 0 0, .string ⟨#[]⟩], .agg #[.slice none 0 0, .string ⟨#[]⟩]], []⟩ 20 (by kernel_rfl) (by kernel_rfl) (by kernel_rfl) (by kernel_rfl)) ?_
  intro W base args ds gs before hval0 hW hcnd hsz0 _
  have hval : ∀ (j : Nat) t v, Try.f5.params[j]? = some t → args[j]? = some v → Value.okWide Try.prog W .any base t v := hval0
  have hW' := hW
  obtain ⟨p, q, hA0, hV, rfl, hfz, hnd⟩ := hW
  have hA : DataW.TrodAll enc Try.prog W 0 (fun _ => true) true Try.f5.params.toList args.toList ds p := hA0
  have hsz : (DataW.weightsEach Try.prog (Try.f5.params.toList ++ []) (ds ++ gs)).all (· ≤ reachBytes) = true := hsz0
  obtain ⟨rfl, rfl⟩ := trodVars_none hV
  rw [Try.params5] at hA hval hsz
  obtain ⟨v0, v1, d0, d1, p0, p1, rfl, rfl, rfl, h0, h1⟩ := trodAll_two hA
  simp only [List.append_nil] at hsz
  obtain ⟨a0, r0, o0⟩ := read_agg rdComplex (.inl ⟨_, Try.underlying31⟩) (fun _ => rfl) (hval 0 _ v0 rfl rfl) h0 (wOk_each hsz 0 _ d0 rfl rfl)
  obtain ⟨a1, r1, o1⟩ := read_agg rdComplex (.inl ⟨_, Try.underlying31⟩) (fun _ => rfl) (hval 1 _ v1 rfl rfl) h1 (wOk_each hsz 1 _ d1 rfl rfl)
  refine (calls_true ((W06.w5 a0 a1 o0 o1).1) (repL2 r0 r1)).mono fun e W' ⟨he, hb⟩ => ?_
  exact ⟨_, he, post_true (tb := 4) laidOut (by kernel_rfl) rfl (by kernel_rfl) (by kernel_rfl) ⟨rfl, rfl, rfl⟩ hW' hb⟩
theorem weightAdds_holds : Rows.WeightAddsSaid :=
  OpenClaim.holds_of_wide 5 Try.f5 rfl rfl rfl rfl rfl rfl rfl ⟨rfl, rfl, rfl, rfl, rfl⟩ rfl rfl rfl rfl rfl (by kernel_rfl) Try.func5 (by kernel_rfl)
    (of_decide_eq_true (by kernel_rfl)) (by unfold Func.isWrapper; rw [if_neg (by decide +kernel)]; exact ⟨rfl, rfl⟩)
    (fun os started H enc _ => weightAdds_lifted os started H enc)
set_option maxRecDepth 100000 in
theorem weightNth_lifted (os : Os) (started : os.Started) (H : Type) (enc : TypeId × Value → H) :
    ReturnsInHanded {} Try.checked os 6 .any (Rows.weightNthSpec.pre6 enc Try.prog Try.f6 Rows.weightNthRow.domain false) (Rows.weightNthSpec.post enc Try.prog Try.f6 false true false false) := by
  refine returnsInHanded_of_change_sized (C := Try.checked) own started (by kernel_rfl) Try.func6
    (ChangeSpec.witness6 (enc := enc) (C := Try.checked) false ⟨#[], #[.int .i64 0, .int .i64 0, .int .i64 0], []⟩ 20 (by kernel_rfl) (by kernel_rfl) (by kernel_rfl) (by kernel_rfl)) ?_
  intro W base args ds gs before hval0 hW hcnd hsz0 _
  have hval : ∀ (j : Nat) t v, Try.f6.params[j]? = some t → args[j]? = some v → Value.okWide Try.prog W .any base t v := hval0
  have hW' := hW
  obtain ⟨p, q, hA0, hV, rfl, hfz, hnd⟩ := hW
  have hA : DataW.TrodAll enc Try.prog W 0 (fun _ => true) true Try.f6.params.toList args.toList ds p := hA0
  have hsz : (DataW.weightsEach Try.prog (Try.f6.params.toList ++ []) (ds ++ gs)).all (· ≤ reachBytes) = true := hsz0
  obtain ⟨rfl, rfl⟩ := trodVars_none hV
  rw [Try.params6] at hA hval hsz
  obtain ⟨v0, v1, v2, d0, d1, d2, p0, p1, p2, rfl, rfl, rfl, h0, h1, h2⟩ := trodAll_three hA
  simp only [List.append_nil] at hsz
  obtain ⟨a0, r0, o0⟩ := read_one rdInt Try.underlying3 (.inl ⟨_, rfl⟩) (fun _ => rfl) (hval 0 _ v0 rfl rfl) h0 (wOk_each hsz 0 _ d0 rfl rfl)
  obtain ⟨a1, r1, o1⟩ := read_one rdInt Try.underlying3 (.inl ⟨_, rfl⟩) (fun _ => rfl) (hval 1 _ v1 rfl rfl) h1 (wOk_each hsz 1 _ d1 rfl rfl)
  obtain ⟨a2, r2, o2⟩ := read_one rdInt Try.underlying3 (.inl ⟨_, rfl⟩) (fun _ => rfl) (hval 2 _ v2 rfl rfl) h2 (wOk_each hsz 2 _ d2 rfl rfl)
  refine (calls_true (W06.w6 a0 a1 a2) (repL3 r0 r1 r2)).mono fun e W' ⟨he, hb⟩ => ?_
  exact ⟨_, he, post_true (tb := 4) laidOut (by kernel_rfl) rfl (by kernel_rfl) (by kernel_rfl) ⟨rfl, rfl, rfl⟩ hW' hb⟩
theorem weightNth_holds : Rows.WeightNthSaid :=
  OpenClaim.holds_of_wide 6 Try.f6 rfl rfl rfl rfl rfl rfl rfl ⟨rfl, rfl, rfl, rfl, rfl⟩ rfl rfl rfl rfl rfl (by kernel_rfl) Try.func6 (by kernel_rfl)
    (of_decide_eq_true (by kernel_rfl)) (by unfold Func.isWrapper; rw [if_neg (by decide +kernel)]; exact ⟨rfl, rfl⟩)
    (fun os started H enc _ => weightNth_lifted os started H enc)
set_option maxRecDepth 100000 in
theorem weightMore_lifted (os : Os) (started : os.Started) (H : Type) (enc : TypeId × Value → H) :
    ReturnsInHanded {} Try.checked os 7 .any (Rows.weightMoreSpec.pre6 enc Try.prog Try.f7 Rows.weightMoreRow.domain false) (Rows.weightMoreSpec.post enc Try.prog Try.f7 false true false false) := by
  refine returnsInHanded_of_change_sized (C := Try.checked) own started (by kernel_rfl) Try.func7
    (ChangeSpec.witness6 (enc := enc) (C := Try.checked) false ⟨#[], #[.agg #[.slice none 0 0, .string ⟨#[]⟩], .agg #[.int .i64 0, .string ⟨#[]⟩, .string ⟨#[]⟩, .int .i64 0, .int .i64 0, .slice none 0 0]], []⟩ 20 (by kernel_rfl) (by kernel_rfl) (by kernel_rfl) (by kernel_rfl)) ?_
  intro W base args ds gs before hval0 hW hcnd hsz0 _
  have hval : ∀ (j : Nat) t v, Try.f7.params[j]? = some t → args[j]? = some v → Value.okWide Try.prog W .any base t v := hval0
  have hW' := hW
  obtain ⟨p, q, hA0, hV, rfl, hfz, hnd⟩ := hW
  have hA : DataW.TrodAll enc Try.prog W 0 (fun _ => true) true Try.f7.params.toList args.toList ds p := hA0
  have hsz : (DataW.weightsEach Try.prog (Try.f7.params.toList ++ []) (ds ++ gs)).all (· ≤ reachBytes) = true := hsz0
  obtain ⟨rfl, rfl⟩ := trodVars_none hV
  rw [Try.params7] at hA hval hsz
  obtain ⟨v0, v1, d0, d1, p0, p1, rfl, rfl, rfl, h0, h1⟩ := trodAll_two hA
  simp only [List.append_nil] at hsz
  obtain ⟨a0, r0, o0⟩ := read_agg rdComplex (.inl ⟨_, Try.underlying31⟩) (fun _ => rfl) (hval 0 _ v0 rfl rfl) h0 (wOk_each hsz 0 _ d0 rfl rfl)
  obtain ⟨a1, r1, o1⟩ := read_agg rdSimple (.inl ⟨_, Try.underlying45⟩) (fun _ => rfl) (hval 1 _ v1 rfl rfl) h1 (wOk_each hsz 1 _ d1 rfl rfl)
  refine (calls_true ((W06.w7 a0 a1 o0 o1).1) (repL2 r0 r1)).mono fun e W' ⟨he, hb⟩ => ?_
  exact ⟨_, he, post_true (tb := 4) laidOut (by kernel_rfl) rfl (by kernel_rfl) (by kernel_rfl) ⟨rfl, rfl, rfl⟩ hW' hb⟩
theorem weightMore_holds : Rows.WeightMoreSaid :=
  OpenClaim.holds_of_wide 7 Try.f7 rfl rfl rfl rfl rfl rfl rfl ⟨rfl, rfl, rfl, rfl, rfl⟩ rfl rfl rfl rfl rfl (by kernel_rfl) Try.func7 (by kernel_rfl)
    (of_decide_eq_true (by kernel_rfl)) (by unfold Func.isWrapper; rw [if_neg (by decide +kernel)]; exact ⟨rfl, rfl⟩)
    (fun os started H enc _ => weightMore_lifted os started H enc)
set_option maxRecDepth 100000 in
theorem weightMax_lifted (os : Os) (started : os.Started) (H : Type) (enc : TypeId × Value → H) :
    ReturnsInHanded {} Try.checked os 8 .any (Rows.weightMaxSpec.pre6 enc Try.prog Try.f8 Rows.weightMaxRow.domain false) (Rows.weightMaxSpec.post enc Try.prog Try.f8 false true false false) := by
  refine returnsInHanded_of_change_sized (C := Try.checked) own started (by kernel_rfl) Try.func8
    (ChangeSpec.witness6 (enc := enc) (C := Try.checked) false ⟨#[], #[.slice none 0 0, .slice none 0 0], []⟩ 20 (by kernel_rfl) (by kernel_rfl) (by kernel_rfl) (by kernel_rfl)) ?_
  intro W base args ds gs before hval0 hW hcnd hsz0 _
  have hval : ∀ (j : Nat) t v, Try.f8.params[j]? = some t → args[j]? = some v → Value.okWide Try.prog W .any base t v := hval0
  have hW' := hW
  obtain ⟨p, q, hA0, hV, rfl, hfz, hnd⟩ := hW
  have hA : DataW.TrodAll enc Try.prog W 0 (fun _ => true) true Try.f8.params.toList args.toList ds p := hA0
  have hsz : (DataW.weightsEach Try.prog (Try.f8.params.toList ++ []) (ds ++ gs)).all (· ≤ reachBytes) = true := hsz0
  obtain ⟨rfl, rfl⟩ := trodVars_none hV
  rw [Try.params8] at hA hval hsz
  obtain ⟨v0, v1, d0, d1, p0, p1, rfl, rfl, rfl, h0, h1⟩ := trodAll_two hA
  simp only [List.append_nil] at hsz
  obtain ⟨a0, r0, o0⟩ := read_one rdLW3L Try.underlying23 (.inr (.inr (.inr ⟨_, rfl⟩))) (fun _ => rfl) (hval 0 _ v0 rfl rfl) h0 (wOk_each hsz 0 _ d0 rfl rfl)
  obtain ⟨a1, r1, o1⟩ := read_one rdLW3L Try.underlying23 (.inr (.inr (.inr ⟨_, rfl⟩))) (fun _ => rfl) (hval 1 _ v1 rfl rfl) h1 (wOk_each hsz 1 _ d1 rfl rfl)
  refine (calls_true ((W06.w8 a0 a1 o0 o1).1) (repL2 r0 r1)).mono fun e W' ⟨he, hb⟩ => ?_
  exact ⟨_, he, post_true (tb := 4) laidOut (by kernel_rfl) rfl (by kernel_rfl) (by kernel_rfl) ⟨rfl, rfl, rfl⟩ hW' hb⟩
theorem weightMax_holds : Rows.WeightMaxSaid :=
  OpenClaim.holds_of_wide 8 Try.f8 rfl rfl rfl rfl rfl rfl rfl ⟨rfl, rfl, rfl, rfl, rfl⟩ rfl rfl rfl rfl rfl (by kernel_rfl) Try.func8 (by kernel_rfl)
    (of_decide_eq_true (by kernel_rfl)) (by unfold Func.isWrapper; rw [if_neg (by decide +kernel)]; exact ⟨rfl, rfl⟩)
    (fun os started H enc _ => weightMax_lifted os started H enc)
end Go.Proofs.Ytcihcbmgoljhdaa
