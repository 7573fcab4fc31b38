/- The laws of this seat: each returns true for every input, and its arguments read as they did. -/
import Derived.Test.YtoilbphgflgbeaaGreatRows
import Derived.ProofKit
import Derived.SizedLaws
import Derived.Test.YtoilbphgflgbeaaGreatTxI
set_option linter.unusedSimpArgs false
set_option linter.unusedVariables false
namespace Go.Proofs.YtoilbphgflgbeaaGreat
open Go.ChangeShapes Go.WideShapes Go.ChangeAt Go.RowKit Go.AX Go.AX.Ty
theorem own : ownKnob Tryz.prog.godebug = none := by kernel_rfl
theorem laidOut : laidOutB Tryz.prog = true := by kernel_rfl
theorem rdInt : Reads Tryz.prog 3 Int := reads_int Tryz.underlying3
theorem rdStr : Reads Tryz.prog 9 Str := reads_str Tryz.underlying9
theorem rdSimple : Reads Tryz.prog 149 Ty.Simple := reads_Simple Tryz.underlying149 (by kernel_rfl) (by kernel_rfl) (of_decide_eq_true (by kernel_rfl)) rdInt rdStr rdStr rdInt rdInt Tryz.underlying99
theorem rdLSimpleL : Reads Tryz.prog 99 (List Ty.Simple) := fun n => reads_slice Tryz.underlying99 (by kernel_rfl) (by decide) (of_decide_eq_true (by kernel_rfl)) fun m _ => rdSimple m
theorem rdPart : Reads Tryz.prog 101 Ty.Part := reads_Part Tryz.underlying101 (by kernel_rfl) (by kernel_rfl) rdInt rdLSimpleL
theorem rdLPartL : Reads Tryz.prog 96 (List Ty.Part) := fun n => reads_slice Tryz.underlying96 (by kernel_rfl) (by decide) (of_decide_eq_true (by kernel_rfl)) fun m _ => rdPart m
theorem rdComplex : Reads Tryz.prog 98 Ty.Complex := reads_Complex Tryz.underlying98 (by kernel_rfl) (by kernel_rfl) rdLPartL rdStr
theorem rdLComplexL : Reads Tryz.prog 38 (List Ty.Complex) := fun n => reads_slice Tryz.underlying38 (by kernel_rfl) (by decide) (of_decide_eq_true (by kernel_rfl)) fun m _ => rdComplex m
theorem rdToken : Reads Tryz.prog 79 Ty.Token := reads_Token Tryz.underlying79 (by kernel_rfl) (by kernel_rfl) rdInt rdStr rdInt
theorem rdVal : Reads Tryz.prog 81 Ty.Val := reads_Val Tryz.underlying81 (by kernel_rfl) (by kernel_rfl) (of_decide_eq_true (by kernel_rfl)) rdInt rdToken Tryz.underlying43
theorem rdLValL : Reads Tryz.prog 43 (List Ty.Val) := fun n => reads_slice Tryz.underlying43 (by kernel_rfl) (by decide) (of_decide_eq_true (by kernel_rfl)) fun m _ => rdVal m
theorem rdBool : Reads Tryz.prog 4 Bool := reads_bool Tryz.underlying4
theorem rdDecl : Reads Tryz.prog 58 Ty.Decl := reads_Decl Tryz.underlying58 (by kernel_rfl) (by kernel_rfl) rdStr rdLValL rdBool
theorem rdLDeclL : Reads Tryz.prog 39 (List Ty.Decl) := fun n => reads_slice Tryz.underlying39 (by kernel_rfl) (by decide) (of_decide_eq_true (by kernel_rfl)) fun m _ => rdDecl m
theorem rdLStrL : Reads Tryz.prog 30 (List Str) := fun n => reads_slice Tryz.underlying30 (by kernel_rfl) (by decide) (of_decide_eq_true (by kernel_rfl)) fun m _ => rdStr m
theorem rdItem : Reads Tryz.prog 71 Ty.Item := reads_Item Tryz.underlying71 (by kernel_rfl) (by kernel_rfl) (of_decide_eq_true (by kernel_rfl)) rdInt rdLComplexL rdLDeclL rdLStrL rdInt rdInt rdLValL Tryz.underlying68
theorem rdLItemL : Reads Tryz.prog 68 (List Ty.Item) := fun n => reads_slice Tryz.underlying68 (by kernel_rfl) (by decide) (of_decide_eq_true (by kernel_rfl)) fun m _ => rdItem m
theorem rdLLItemLL : Reads Tryz.prog 22 (List (List Ty.Item)) := fun n => reads_slice Tryz.underlying22 (by kernel_rfl) (by decide) (of_decide_eq_true (by kernel_rfl)) fun m _ => rdLItemL m
theorem rdAttr : Reads Tryz.prog 127 Ty.Attr := reads_Attr Tryz.underlying127 (by kernel_rfl) (by kernel_rfl) rdStr rdStr
theorem rdLAttrL : Reads Tryz.prog 122 (List Ty.Attr) := fun n => reads_slice Tryz.underlying122 (by kernel_rfl) (by decide) (of_decide_eq_true (by kernel_rfl)) fun m _ => rdAttr m
theorem rdLIntL : Reads Tryz.prog 123 (List Int) := fun n => reads_slice Tryz.underlying123 (by kernel_rfl) (by decide) (of_decide_eq_true (by kernel_rfl)) fun m _ => rdInt m
theorem rdNode : Reads Tryz.prog 125 Ty.Node := reads_Node Tryz.underlying125 (by kernel_rfl) (by kernel_rfl) rdStr rdLAttrL rdStr rdInt rdLIntL
theorem rdPage : Reads Tryz.prog 24 (List Ty.Node) := fun n => reads_slice Tryz.underlying24 (by kernel_rfl) (by decide) (of_decide_eq_true (by kernel_rfl)) fun m _ => rdNode m
theorem rdState : Reads Tryz.prog 129 Ty.State := reads_State Tryz.underlying129 (by kernel_rfl) (by kernel_rfl) rdInt rdStr
theorem rdLStateL : Reads Tryz.prog 25 (List Ty.State) := fun n => reads_slice Tryz.underlying25 (by kernel_rfl) (by decide) (of_decide_eq_true (by kernel_rfl)) fun m _ => rdState m
theorem rdScene : Reads Tryz.prog 27 Ty.Scene := reads_Scene Tryz.underlying27 (by kernel_rfl) (by kernel_rfl) rdLLItemLL rdPage rdInt rdLStateL
set_option maxRecDepth 100000 in
theorem orderTwice_lifted (os : Os) (started : os.Started) (H : Type) (enc : TypeId × Value → H) :
    ReturnsInHanded {} Tryz.checked os 7 .any (Rows.orderTwiceSpec.pre6 enc Tryz.prog Tryz.f7 Rows.orderTwiceRow.domain false) (Rows.orderTwiceSpec.post enc Tryz.prog Tryz.f7 false true false false) := by
  refine returnsInHanded_of_change_sized (C := Tryz.checked) own started (by kernel_rfl) Tryz.func7
    (ChangeSpec.witness6 (enc := enc) (C := Tryz.checked) false ⟨#[], #[.agg #[.slice none 0 0, .slice none 0 0, .int .i64 0, .slice none 0 0], .int .i64 0, .string ⟨#[]⟩], []⟩ 20 (by kernel_rfl) (by kernel_rfl) (by kernel_rfl) (by kernel_rfl)) ?_
  intro W base args ds gs before hval0 hW hcnd hsz0 _
  have hval : ∀ (j : Nat) t v, Tryz.f7.params[j]? = some t → args[j]? = some v → Value.okWide Tryz.prog W .any base t v := hval0
  have hW' := hW
  obtain ⟨p, q, hA0, hV, rfl, hfz, hnd⟩ := hW
  have hA : DataW.TrodAll enc Tryz.prog W 0 (fun _ => true) true Tryz.f7.params.toList args.toList ds p := hA0
  have hsz : (DataW.weightsEach Tryz.prog (Tryz.f7.params.toList ++ []) (ds ++ gs)).all (· ≤ reachBytes) = true := hsz0
  obtain ⟨rfl, rfl⟩ := trodVars_none hV
  rw [Tryz.params7] at hA hval hsz
  obtain ⟨v0, v1, v2, d0, d1, d2, p0, p1, p2, rfl, rfl, rfl, h0, h1, h2⟩ := trodAll_three hA
  simp only [List.append_nil] at hsz
  obtain ⟨a0, r0, o0⟩ := read_agg rdScene (.inl ⟨_, Tryz.underlying27⟩) (fun _ => rfl) (hval 0 _ v0 rfl rfl) h0 (wOk_each hsz 0 _ d0 rfl rfl)
  obtain ⟨a1, r1, o1⟩ := read_one rdInt Tryz.underlying3 (.inl ⟨_, rfl⟩) (fun _ => rfl) (hval 1 _ v1 rfl rfl) h1 (wOk_each hsz 1 _ d1 rfl rfl)
  obtain ⟨a2, r2, o2⟩ := read_one rdStr Tryz.underlying9 (.inr (.inr (.inl rfl))) (fun _ => rfl) (hval 2 _ v2 rfl rfl) h2 (wOk_each hsz 2 _ d2 rfl rfl)
  refine (calls_true ((W15.w_OrderTwice a0 a1 a2 o0).1) (repL3 r0 r1 r2)).mono fun e W' ⟨he, hb⟩ => ?_
  exact ⟨_, he, post_true (tb := 4) laidOut (by kernel_rfl) rfl (by kernel_rfl) (by kernel_rfl) ⟨rfl, rfl, rfl⟩ hW' hb⟩
theorem orderTwice_holds : Rows.OrderTwiceSaid :=
  OpenClaim.holds_of_wide 7 Tryz.f7 rfl rfl rfl rfl rfl rfl rfl ⟨rfl, rfl, rfl, rfl, rfl⟩ rfl rfl rfl rfl rfl (by kernel_rfl) Tryz.func7 (by kernel_rfl)
    (of_decide_eq_true (by kernel_rfl)) (by unfold Func.isWrapper; rw [if_neg (by decide +kernel)]; exact ⟨rfl, rfl⟩)
    (fun os started H enc _ => orderTwice_lifted os started H enc)
end Go.Proofs.YtoilbphgflgbeaaGreat
