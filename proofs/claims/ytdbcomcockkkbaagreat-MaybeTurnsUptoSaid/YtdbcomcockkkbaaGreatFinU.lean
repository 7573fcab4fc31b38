/- The laws of this seat: each returns true for every input, and its arguments read as they did. -/
import Derived.Test.YtdbcomcockkkbaaGreatRows
import Derived.ProofKit
import Derived.SizedLaws
import Derived.Test.YtdbcomcockkkbaaGreatBv
import Derived.Test.YtdbcomcockkkbaaGreatMbT
set_option linter.unusedSimpArgs false
set_option linter.unusedVariables false
namespace Go.Proofs.YtdbcomcockkkbaaGreat
open Go.ChangeShapes Go.WideShapes Go.ChangeAt Go.RowKit Go.AX Go.AX.Ty
theorem own : ownKnob Tryz.prog.godebug = none := by kernel_rfl
theorem laidOut : laidOutB Tryz.prog = true := by kernel_rfl
theorem rdStr : Reads Tryz.prog 9 Str := reads_str Tryz.underlying9
theorem rdAttr : Reads Tryz.prog 94 Ty.Attr := reads_Attr Tryz.underlying94 (by kernel_rfl) (by kernel_rfl) rdStr rdStr
theorem rdLAttrL : Reads Tryz.prog 85 (List Ty.Attr) := fun n => reads_slice Tryz.underlying85 (by kernel_rfl) (by decide) (of_decide_eq_true (by kernel_rfl)) fun m _ => rdAttr m
theorem rdInt : Reads Tryz.prog 3 Int := reads_int Tryz.underlying3
theorem rdLIntL : Reads Tryz.prog 52 (List Int) := fun n => reads_slice Tryz.underlying52 (by kernel_rfl) (by decide) (of_decide_eq_true (by kernel_rfl)) fun m _ => rdInt m
theorem rdNode : Reads Tryz.prog 87 Ty.Node := reads_Node Tryz.underlying87 (by kernel_rfl) (by kernel_rfl) rdStr rdLAttrL rdStr rdInt rdLIntL
theorem rdPage : Reads Tryz.prog 23 (List Ty.Node) := fun n => reads_slice Tryz.underlying23 (by kernel_rfl) (by decide) (of_decide_eq_true (by kernel_rfl)) fun m _ => rdNode m
theorem rdLStrL : Reads Tryz.prog 24 (List Str) := fun n => reads_slice Tryz.underlying24 (by kernel_rfl) (by decide) (of_decide_eq_true (by kernel_rfl)) fun m _ => rdStr m
theorem rdSafe : Reads Tryz.prog 26 Ty.Safe := reads_Safe Tryz.underlying26 (by kernel_rfl) (by kernel_rfl) rdLStrL rdLStrL
theorem rdWorldS : Reads Tryz.prog 28 Ty.WorldS := reads_WorldS Tryz.underlying28 (by kernel_rfl) (by kernel_rfl) rdPage rdSafe
theorem rdSimple : Reads Tryz.prog 39 Ty.Simple := reads_Simple Tryz.underlying39 (by kernel_rfl) (by kernel_rfl) (of_decide_eq_true (by kernel_rfl)) rdInt rdStr rdStr rdInt rdInt Tryz.underlying34
theorem rdLSimpleL : Reads Tryz.prog 34 (List Ty.Simple) := fun n => reads_slice Tryz.underlying34 (by kernel_rfl) (by decide) (of_decide_eq_true (by kernel_rfl)) fun m _ => rdSimple m
theorem rdPart : Reads Tryz.prog 36 Ty.Part := reads_Part Tryz.underlying36 (by kernel_rfl) (by kernel_rfl) rdInt rdLSimpleL
theorem rdLPartL : Reads Tryz.prog 29 (List Ty.Part) := fun n => reads_slice Tryz.underlying29 (by kernel_rfl) (by decide) (of_decide_eq_true (by kernel_rfl)) fun m _ => rdPart m
theorem rdComplex : Reads Tryz.prog 31 Ty.Complex := reads_Complex Tryz.underlying31 (by kernel_rfl) (by kernel_rfl) rdLPartL rdStr
theorem rdTurn : Reads Tryz.prog 82 Ty.Turn := reads_Turn Tryz.underlying82 (by kernel_rfl) (by kernel_rfl) rdInt rdInt rdStr rdStr
theorem rdLTurnL : Reads Tryz.prog 43 (List Ty.Turn) := fun n => reads_slice Tryz.underlying43 (by kernel_rfl) (by decide) (of_decide_eq_true (by kernel_rfl)) fun m _ => rdTurn m
set_option maxRecDepth 100000 in
theorem maybeTurns_lifted (os : Os) (started : os.Started) (H : Type) (enc : TypeId × Value → H) (I : Stop.Interp) :
    ReturnsInHanded {} Tryz.checked os 8 .any ((Rows.OpenSpec.upto Rows.maybeTurnsSpec).pre6 enc Tryz.prog Tryz.f8 Rows.maybeTurnsUptoRow.domain false) (((Rows.OpenSpec.upto Rows.maybeTurnsSpec).at I).post enc Tryz.prog Tryz.f8 false true false false) := by
  refine returnsInHanded_of_cond_sized (C := Tryz.checked) (s := Rows.OpenSpec.upto Rows.maybeTurnsSpec) (k := Rows.uptoSmall) rfl own started (by kernel_rfl) Tryz.func8
    (OpenSpec.witness (enc := enc) (C := Tryz.checked) (s := Rows.OpenSpec.upto Rows.maybeTurnsSpec) (k := Rows.uptoSmall) rfl false ⟨#[], #[.agg #[.slice none 0 0, .slice none 0 0, .slice none 0 0], .agg #[.slice none 0 0, .string ⟨#[]⟩], .slice none 0 0], []⟩ 20 (by kernel_rfl) (by kernel_rfl) (by kernel_rfl)
      (x := ([.agg [.nil, .agg [.nil, .nil]], .agg [.nil, .lit (.string [])], .nil], [], [])) (by kernel_rfl) rfl (by kernel_rfl)) ?_
  intro W base args ds gs before hval0 hW hcnd hk hsz0 _
  have hval : ∀ (j : Nat) t v, Tryz.f8.params[j]? = some t → args[j]? = some v → Value.okWide Tryz.prog W .any base t v := hval0
  have hW' := hW
  obtain ⟨p, q, hA0, hV, rfl, hfz, hnd⟩ := hW
  have hA : DataW.TrodAll enc Tryz.prog W 0 (fun _ => true) true Tryz.f8.params.toList args.toList ds p := hA0
  have hsz : (DataW.weightsEach Tryz.prog (Tryz.f8.params.toList ++ []) (ds ++ gs)).all (· ≤ reachBytes) = true := hsz0
  obtain ⟨rfl, rfl⟩ := trodVars_none hV
  rw [Tryz.params8] at hA hval hsz
  obtain ⟨v0, v1, v2, d0, d1, d2, p0, p1, p2, rfl, rfl, rfl, h0, h1, h2⟩ := trodAll_three hA
  simp only [List.append_nil] at hsz
  obtain ⟨a0, r0, o0⟩ := read_agg rdWorldS (.inl ⟨_, Tryz.underlying28⟩) (fun _ => rfl) (hval 0 _ v0 rfl rfl) h0 (wOk_each hsz 0 _ d0 rfl rfl)
  obtain ⟨a1, r1, o1⟩ := read_agg rdComplex (.inl ⟨_, Tryz.underlying31⟩) (fun _ => rfl) (hval 1 _ v1 rfl rfl) h1 (wOk_each hsz 1 _ d1 rfl rfl)
  obtain ⟨a2, r2, o2⟩ := read_one rdLTurnL Tryz.underlying43 (.inr (.inr (.inr ⟨_, rfl⟩))) (fun _ => rfl) (hval 2 _ v2 rfl rfl) h2 (wOk_each hsz 2 _ d2 rfl rfl)
  simp only [List.append_nil] at hk
  have b0 : a0.s.classes.length ≤ 1048576 ∧ a0.s.attrs.length ≤ 1048576 := by
    have hq := bulk_arg (a := a0) (Q := fun n => a0.s.classes.length ≤ n ∧ a0.s.attrs.length ≤ n) rfl (fun cs x n h r => bulk_world a0 h r) h0 r0
    have hl := bulk_le hk
    simp only [Rows.uptoBulkAll] at hl
    omega
  refine (calls_true ((W14.w_MaybeTurns a0 a1 a2 o0 o1 o2 b0.1 b0.2).1) (repL3 r0 r1 r2)).mono fun e W' ⟨he, hb⟩ => ?_
  exact ⟨_, he, (show Rows.maybeTurnsSpec.post enc Tryz.prog Tryz.f8 false true false false W _ _ W' from post_true (tb := 4) laidOut (by kernel_rfl) rfl (by kernel_rfl) (by kernel_rfl) ⟨rfl, rfl, rfl⟩ hW' hb)⟩
theorem maybeTurns_holds : Rows.MaybeTurnsUptoSaid :=
  OpenClaim.holds_of_cond 8 Tryz.f8 rfl rfl rfl rfl rfl rfl rfl ⟨rfl, rfl, rfl, rfl, rfl⟩ rfl rfl rfl rfl rfl (by kernel_rfl) Tryz.func8 (by kernel_rfl)
    (of_decide_eq_true (by kernel_rfl)) (by unfold Func.isWrapper; rw [if_neg (by decide +kernel)]; exact ⟨rfl, rfl⟩)
    (fun os started H enc _ I => maybeTurns_lifted os started H enc I)
end Go.Proofs.YtdbcomcockkkbaaGreat
