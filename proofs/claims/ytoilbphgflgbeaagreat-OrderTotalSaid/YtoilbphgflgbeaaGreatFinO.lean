/- The laws of this seat: each returns true for every input, and its arguments read as they did. -/
import Derived.Test.YtoilbphgflgbeaaGreatRows
import Derived.ProofKit
import Derived.SizedLaws
import Derived.Test.YtoilbphgflgbeaaGreatTxT
set_option linter.unusedSimpArgs false
set_option linter.unusedVariables false
namespace Go.Proofs.YtoilbphgflgbeaaGreat
open Go.ChangeShapes Go.WideShapes Go.ChangeAt Go.RowKit Go.AX Go.AX.Ty
theorem own : ownKnob Tryz.prog.godebug = none := by kernel_rfl
theorem laidOut : laidOutB Tryz.prog = true := by kernel_rfl
theorem rdStr : Reads Tryz.prog 9 Str := reads_str Tryz.underlying9
theorem rdInt : Reads Tryz.prog 3 Int := reads_int Tryz.underlying3
theorem rdToken : Reads Tryz.prog 79 Ty.Token := reads_Token Tryz.underlying79 (by kernel_rfl) (by kernel_rfl) rdInt rdStr rdInt
theorem rdVal : Reads Tryz.prog 81 Ty.Val := reads_Val Tryz.underlying81 (by kernel_rfl) (by kernel_rfl) (of_decide_eq_true (by kernel_rfl)) rdInt rdToken Tryz.underlying43
theorem rdLValL : Reads Tryz.prog 43 (List Ty.Val) := fun n => reads_slice Tryz.underlying43 (by kernel_rfl) (by decide) (of_decide_eq_true (by kernel_rfl)) fun m _ => rdVal m
theorem rdBool : Reads Tryz.prog 4 Bool := reads_bool Tryz.underlying4
theorem rdDecl : Reads Tryz.prog 58 Ty.Decl := reads_Decl Tryz.underlying58 (by kernel_rfl) (by kernel_rfl) rdStr rdLValL rdBool
theorem rdW3 : Reads Tryz.prog 59 W3 := reads_W3 Tryz.underlying59 (by kernel_rfl) (by kernel_rfl) rdInt
theorem rdFound : Reads Tryz.prog 61 Ty.Found := reads_Found Tryz.underlying61 (by kernel_rfl) (by kernel_rfl) rdDecl rdInt rdW3 rdInt
set_option maxRecDepth 100000 in
theorem orderTotal_lifted (os : Os) (started : os.Started) (H : Type) (enc : TypeId × Value → H) :
    ReturnsInHanded {} Tryz.checked os 5 .any (Rows.orderTotalSpec.pre6 enc Tryz.prog Tryz.f5 Rows.orderTotalRow.domain false) (Rows.orderTotalSpec.post enc Tryz.prog Tryz.f5 false true false false) := by
  refine returnsInHanded_of_change_sized (C := Tryz.checked) own started (by kernel_rfl) Tryz.func5
    (ChangeSpec.witness6 (enc := enc) (C := Tryz.checked) false ⟨#[], #[.agg #[.string ⟨#[]⟩, .slice none 0 0, .bool false, .int .i64 0, .int .i64 0, .int .i64 0, .int .i64 0, .int .i64 0], .agg #[.string ⟨#[]⟩, .slice none 0 0, .bool false, .int .i64 0, .int .i64 0, .int .i64 0, .int .i64 0, .int .i64 0], .agg #[.string ⟨#[]⟩, .slice none 0 0, .bool false, .int .i64 0, .int .i64 0, .int .i64 0, .int .i64 0, .int .i64 0]], []⟩ 20 (by kernel_rfl) (by kernel_rfl) (by kernel_rfl) (by kernel_rfl)) ?_
  intro W base args ds gs before hval0 hW hcnd hsz0 _
  have hval : ∀ (j : Nat) t v, Tryz.f5.params[j]? = some t → args[j]? = some v → Value.okWide Tryz.prog W .any base t v := hval0
  have hW' := hW
  obtain ⟨p, q, hA0, hV, rfl, hfz, hnd⟩ := hW
  have hA : DataW.TrodAll enc Tryz.prog W 0 (fun _ => true) true Tryz.f5.params.toList args.toList ds p := hA0
  have hsz : (DataW.weightsEach Tryz.prog (Tryz.f5.params.toList ++ []) (ds ++ gs)).all (· ≤ reachBytes) = true := hsz0
  obtain ⟨rfl, rfl⟩ := trodVars_none hV
  rw [Tryz.params5] at hA hval hsz
  obtain ⟨v0, v1, v2, d0, d1, d2, p0, p1, p2, rfl, rfl, rfl, h0, h1, h2⟩ := trodAll_three hA
  simp only [List.append_nil] at hsz
  obtain ⟨a0, r0, o0⟩ := read_agg rdFound (.inl ⟨_, Tryz.underlying61⟩) (fun _ => rfl) (hval 0 _ v0 rfl rfl) h0 (wOk_each hsz 0 _ d0 rfl rfl)
  obtain ⟨a1, r1, o1⟩ := read_agg rdFound (.inl ⟨_, Tryz.underlying61⟩) (fun _ => rfl) (hval 1 _ v1 rfl rfl) h1 (wOk_each hsz 1 _ d1 rfl rfl)
  obtain ⟨a2, r2, o2⟩ := read_agg rdFound (.inl ⟨_, Tryz.underlying61⟩) (fun _ => rfl) (hval 2 _ v2 rfl rfl) h2 (wOk_each hsz 2 _ d2 rfl rfl)
  refine (calls_true ((W15.w_OrderTotal a0 a1 a2 o0 o1 o2).1) (repL3 r0 r1 r2)).mono fun e W' ⟨he, hb⟩ => ?_
  exact ⟨_, he, post_true (tb := 4) laidOut (by kernel_rfl) rfl (by kernel_rfl) (by kernel_rfl) ⟨rfl, rfl, rfl⟩ hW' hb⟩
theorem orderTotal_holds : Rows.OrderTotalSaid :=
  OpenClaim.holds_of_wide 5 Tryz.f5 rfl rfl rfl rfl rfl rfl rfl ⟨rfl, rfl, rfl, rfl, rfl⟩ rfl rfl rfl rfl rfl (by kernel_rfl) Tryz.func5 (by kernel_rfl)
    (of_decide_eq_true (by kernel_rfl)) (by unfold Func.isWrapper; rw [if_neg (by decide +kernel)]; exact ⟨rfl, rfl⟩)
    (fun os started H enc _ => orderTotal_lifted os started H enc)
end Go.Proofs.YtoilbphgflgbeaaGreat
