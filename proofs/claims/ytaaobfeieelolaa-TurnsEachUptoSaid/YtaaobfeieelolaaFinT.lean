/- The laws of this seat: each returns true for every input, and its arguments read as they did. -/
import Derived.Test.YtaaobfeieelolaaRows
import Derived.ProofKit
import Derived.SizedLaws
import Derived.Test.YtaaobfeieelolaaBu
import Derived.Test.YtaaobfeieelolaaTxE
set_option linter.unusedSimpArgs false
set_option linter.unusedVariables false
namespace Go.Proofs.Ytaaobfeieelolaa
open Go.ChangeShapes Go.WideShapes Go.ChangeAt Go.RowKit Go.AX Go.AX.Ty
theorem own : ownKnob Try.prog.godebug = none := by kernel_rfl
theorem laidOut : laidOutB Try.prog = true := by kernel_rfl
theorem rdStr : Reads Try.prog 9 Str := reads_str Try.underlying9
theorem rdLStrL : Reads Try.prog 22 (List Str) := fun n => reads_slice Try.underlying22 (by kernel_rfl) (by decide) (of_decide_eq_true (by kernel_rfl)) fun m _ => rdStr m
theorem rdSafe : Reads Try.prog 24 Ty.Safe := reads_Safe Try.underlying24 (by kernel_rfl) (by kernel_rfl) rdLStrL rdLStrL
theorem rdAttr : Reads Try.prog 57 Ty.Attr := reads_Attr Try.underlying57 (by kernel_rfl) (by kernel_rfl) rdStr rdStr
theorem rdLAttrL : Reads Try.prog 43 (List Ty.Attr) := fun n => reads_slice Try.underlying43 (by kernel_rfl) (by decide) (of_decide_eq_true (by kernel_rfl)) fun m _ => rdAttr m
theorem rdInt : Reads Try.prog 3 Int := reads_int Try.underlying3
theorem rdLIntL : Reads Try.prog 44 (List Int) := fun n => reads_slice Try.underlying44 (by kernel_rfl) (by decide) (of_decide_eq_true (by kernel_rfl)) fun m _ => rdInt m
theorem rdNode : Reads Try.prog 46 Ty.Node := reads_Node Try.underlying46 (by kernel_rfl) (by kernel_rfl) rdStr rdLAttrL rdStr rdInt rdLIntL
theorem rdPage : Reads Try.prog 26 (List Ty.Node) := fun n => reads_slice Try.underlying26 (by kernel_rfl) (by decide) (of_decide_eq_true (by kernel_rfl)) fun m _ => rdNode m
theorem rdTurn : Reads Try.prog 34 Ty.Turn := reads_Turn Try.underlying34 (by kernel_rfl) (by kernel_rfl) rdInt rdInt rdStr rdStr
theorem rdLTurnL : Reads Try.prog 27 (List Ty.Turn) := fun n => reads_slice Try.underlying27 (by kernel_rfl) (by decide) (of_decide_eq_true (by kernel_rfl)) fun m _ => rdTurn m
set_option maxRecDepth 100000 in
theorem turnsTell_lifted (os : Os) (started : os.Started) (H : Type) (enc : TypeId × Value → H) (I : Stop.Interp) :
    ReturnsInHanded {} Try.checked os 3 .any ((Rows.OpenSpec.upto Rows.turnsTellSpec).pre6 enc Try.prog Try.f3 Rows.turnsTellUptoRow.domain false) (((Rows.OpenSpec.upto Rows.turnsTellSpec).at I).post enc Try.prog Try.f3 false true false false) := by
  refine returnsInHanded_of_cond_sized (C := Try.checked) (s := Rows.OpenSpec.upto Rows.turnsTellSpec) (k := Rows.uptoSmall) rfl own started (by kernel_rfl) Try.func3
    (OpenSpec.witness (enc := enc) (C := Try.checked) (s := Rows.OpenSpec.upto Rows.turnsTellSpec) (k := Rows.uptoSmall) rfl false ⟨#[], #[.agg #[.slice none 0 0, .slice none 0 0], .slice none 0 0, .slice none 0 0], []⟩ 20 (by kernel_rfl) (by kernel_rfl) (by kernel_rfl)
      (x := ([.agg [.nil, .nil], .nil, .nil], [], [])) (by kernel_rfl) rfl (by kernel_rfl)) ?_
  intro W base args ds gs before hval0 hW hcnd hk hsz0 _
  have hval : ∀ (j : Nat) t v, Try.f3.params[j]? = some t → args[j]? = some v → Value.okWide Try.prog W .any base t v := hval0
  have hW' := hW
  obtain ⟨p, q, hA0, hV, rfl, hfz, hnd⟩ := hW
  have hA : DataW.TrodAll enc Try.prog W 0 (fun _ => true) true Try.f3.params.toList args.toList ds p := hA0
  have hsz : (DataW.weightsEach Try.prog (Try.f3.params.toList ++ []) (ds ++ gs)).all (· ≤ reachBytes) = true := hsz0
  obtain ⟨rfl, rfl⟩ := trodVars_none hV
  rw [Try.params3] at hA hval hsz
  obtain ⟨v0, v1, v2, d0, d1, d2, p0, p1, p2, rfl, rfl, rfl, h0, h1, h2⟩ := trodAll_three hA
  simp only [List.append_nil] at hsz
  obtain ⟨a0, r0, o0⟩ := read_agg rdSafe (.inl ⟨_, Try.underlying24⟩) (fun _ => rfl) (hval 0 _ v0 rfl rfl) h0 (wOk_each hsz 0 _ d0 rfl rfl)
  obtain ⟨a1, r1, o1⟩ := read_one rdPage Try.underlying26 (.inr (.inr (.inr ⟨_, rfl⟩))) (fun _ => rfl) (hval 1 _ v1 rfl rfl) h1 (wOk_each hsz 1 _ d1 rfl rfl)
  obtain ⟨a2, r2, o2⟩ := read_one rdLTurnL Try.underlying27 (.inr (.inr (.inr ⟨_, rfl⟩))) (fun _ => rfl) (hval 2 _ v2 rfl rfl) h2 (wOk_each hsz 2 _ d2 rfl rfl)
  simp only [List.append_nil] at hk
  have b0 : a0.classes.length ≤ 1048576 ∧ a0.attrs.length ≤ 1048576 := by
    have hq := bulk_arg (a := a0) (Q := fun n => a0.classes.length ≤ n ∧ a0.attrs.length ≤ n) rfl (fun cs x n h r => bulk_safe a0 h r) h0 r0
    have hl := bulk_le hk
    simp only [Rows.uptoBulkAll] at hl
    omega
  refine (calls_true ((W11.w_TurnsTell a0 a1 a2 o0 o1 o2 b0.1 b0.2).1) (repL3 r0 r1 r2)).mono fun e W' ⟨he, hb⟩ => ?_
  exact ⟨_, he, (show Rows.turnsTellSpec.post enc Try.prog Try.f3 false true false false W _ _ W' from post_true (tb := 4) laidOut (by kernel_rfl) rfl (by kernel_rfl) (by kernel_rfl) ⟨rfl, rfl, rfl⟩ hW' hb)⟩
theorem turnsTell_holds : Rows.TurnsTellUptoSaid :=
  OpenClaim.holds_of_cond 3 Try.f3 rfl rfl rfl rfl rfl rfl rfl ⟨rfl, rfl, rfl, rfl, rfl⟩ rfl rfl rfl rfl rfl (by kernel_rfl) Try.func3 (by kernel_rfl)
    (of_decide_eq_true (by kernel_rfl)) (by unfold Func.isWrapper; rw [if_neg (by decide +kernel)]; exact ⟨rfl, rfl⟩)
    (fun os started H enc _ I => turnsTell_lifted os started H enc I)
set_option maxRecDepth 100000 in
theorem turnsEach_lifted (os : Os) (started : os.Started) (H : Type) (enc : TypeId × Value → H) (I : Stop.Interp) :
    ReturnsInHanded {} Try.checked os 7 .any ((Rows.OpenSpec.upto Rows.turnsEachSpec).pre6 enc Try.prog Try.f7 Rows.turnsEachUptoRow.domain false) (((Rows.OpenSpec.upto Rows.turnsEachSpec).at I).post enc Try.prog Try.f7 false true false false) := by
  refine returnsInHanded_of_cond_sized (C := Try.checked) (s := Rows.OpenSpec.upto Rows.turnsEachSpec) (k := Rows.uptoSmall) rfl own started (by kernel_rfl) Try.func7
    (OpenSpec.witness (enc := enc) (C := Try.checked) (s := Rows.OpenSpec.upto Rows.turnsEachSpec) (k := Rows.uptoSmall) rfl false ⟨#[], #[.agg #[.slice none 0 0, .slice none 0 0], .slice none 0 0, .slice none 0 0], []⟩ 20 (by kernel_rfl) (by kernel_rfl) (by kernel_rfl)
      (x := ([.agg [.nil, .nil], .nil, .nil], [], [])) (by kernel_rfl) rfl (by kernel_rfl)) ?_
  intro W base args ds gs before hval0 hW hcnd hk hsz0 _
  have hval : ∀ (j : Nat) t v, Try.f7.params[j]? = some t → args[j]? = some v → Value.okWide Try.prog W .any base t v := hval0
  have hW' := hW
  obtain ⟨p, q, hA0, hV, rfl, hfz, hnd⟩ := hW
  have hA : DataW.TrodAll enc Try.prog W 0 (fun _ => true) true Try.f7.params.toList args.toList ds p := hA0
  have hsz : (DataW.weightsEach Try.prog (Try.f7.params.toList ++ []) (ds ++ gs)).all (· ≤ reachBytes) = true := hsz0
  obtain ⟨rfl, rfl⟩ := trodVars_none hV
  rw [Try.params7] at hA hval hsz
  obtain ⟨v0, v1, v2, d0, d1, d2, p0, p1, p2, rfl, rfl, rfl, h0, h1, h2⟩ := trodAll_three hA
  simp only [List.append_nil] at hsz
  obtain ⟨a0, r0, o0⟩ := read_agg rdSafe (.inl ⟨_, Try.underlying24⟩) (fun _ => rfl) (hval 0 _ v0 rfl rfl) h0 (wOk_each hsz 0 _ d0 rfl rfl)
  obtain ⟨a1, r1, o1⟩ := read_one rdPage Try.underlying26 (.inr (.inr (.inr ⟨_, rfl⟩))) (fun _ => rfl) (hval 1 _ v1 rfl rfl) h1 (wOk_each hsz 1 _ d1 rfl rfl)
  obtain ⟨a2, r2, o2⟩ := read_one rdLTurnL Try.underlying27 (.inr (.inr (.inr ⟨_, rfl⟩))) (fun _ => rfl) (hval 2 _ v2 rfl rfl) h2 (wOk_each hsz 2 _ d2 rfl rfl)
  simp only [List.append_nil] at hk
  have b0 : a0.classes.length ≤ 1048576 ∧ a0.attrs.length ≤ 1048576 := by
    have hq := bulk_arg (a := a0) (Q := fun n => a0.classes.length ≤ n ∧ a0.attrs.length ≤ n) rfl (fun cs x n h r => bulk_safe a0 h r) h0 r0
    have hl := bulk_le hk
    simp only [Rows.uptoBulkAll] at hl
    omega
  refine (calls_true ((W11.w_TurnsEach a0 a1 a2 o0 o1 o2 b0.1 b0.2).1) (repL3 r0 r1 r2)).mono fun e W' ⟨he, hb⟩ => ?_
  exact ⟨_, he, (show Rows.turnsEachSpec.post enc Try.prog Try.f7 false true false false W _ _ W' from post_true (tb := 4) laidOut (by kernel_rfl) rfl (by kernel_rfl) (by kernel_rfl) ⟨rfl, rfl, rfl⟩ hW' hb)⟩
theorem turnsEach_holds : Rows.TurnsEachUptoSaid :=
  OpenClaim.holds_of_cond 7 Try.f7 rfl rfl rfl rfl rfl rfl rfl ⟨rfl, rfl, rfl, rfl, rfl⟩ rfl rfl rfl rfl rfl (by kernel_rfl) Try.func7 (by kernel_rfl)
    (of_decide_eq_true (by kernel_rfl)) (by unfold Func.isWrapper; rw [if_neg (by decide +kernel)]; exact ⟨rfl, rfl⟩)
    (fun os started H enc _ I => turnsEach_lifted os started H enc I)
end Go.Proofs.Ytaaobfeieelolaa
