/- The fixed calls: values, part 2. -/
import Derived.Test.YtdbcomcockkkbaaGreatFyA
set_option linter.unusedVariables false
namespace W14
open Go Go.AX Go.Proofs
theorem fx_any0 : PureF Tryz.prog 16 [fxSafe, fxPage, fxSel0] (.int .i64 1) := pureF_evk mix T_ok T_in (n := 1000000) (by kernel_rfl) (by kernel_rfl) (by kernel_rfl)
theorem fx_any3 : PureF Tryz.prog 16 [fxSafe, fxPage, fxSel3] (.int .i64 1) := pureF_evk mix T_ok T_in (n := 1000000) (by kernel_rfl) (by kernel_rfl) (by kernel_rfl)
theorem fx_any6 : PureF Tryz.prog 16 [fxSafe, fxPage, fxSel6] (.int .i64 1) := pureF_evk mix T_ok T_in (n := 1000000) (by kernel_rfl) (by kernel_rfl) (by kernel_rfl)
theorem fx_any9 : PureF Tryz.prog 16 [fxSafe, fxPage, fxSel9] (.int .i64 2) := pureF_evk mix T_ok T_in (n := 1000000) (by kernel_rfl) (by kernel_rfl) (by kernel_rfl)
theorem fx_of1 : PureF Tryz.prog 14 [fxSafe, fxPage, .int .i64 2, fxSel12] (.int .i64 2) := pureF_evk mix T_ok T_in (n := 1000000) (by kernel_rfl) (by kernel_rfl) (by kernel_rfl)
theorem fx_of2 : PureF Tryz.prog 14 [fxSafe, fxPage, .int .i64 3, fxSel12] (.int .i64 0) := pureF_evk mix T_ok T_in (n := 1000000) (by kernel_rfl) (by kernel_rfl) (by kernel_rfl)
end W14
/- The fixed calls: values, part 3. -/
set_option linter.unusedVariables false
namespace W14
open Go Go.AX Go.Proofs
theorem fx_any1 : PureF Tryz.prog 16 [fxSafe, fxPage, fxSel1] (.int .i64 2) := pureF_evk mix T_ok T_in (n := 1000000) (by kernel_rfl) (by kernel_rfl) (by kernel_rfl)
theorem fx_any4 : PureF Tryz.prog 16 [fxSafe, fxPage, fxSel4] (.int .i64 1) := pureF_evk mix T_ok T_in (n := 1000000) (by kernel_rfl) (by kernel_rfl) (by kernel_rfl)
theorem fx_any7 : PureF Tryz.prog 16 [fxSafe, fxPage, fxSel7] (.int .i64 0) := pureF_evk mix T_ok T_in (n := 1000000) (by kernel_rfl) (by kernel_rfl) (by kernel_rfl)
theorem fx_any10 : PureF Tryz.prog 16 [fxSafe, fxPage, fxSel10] (.int .i64 0) := pureF_evk mix T_ok T_in (n := 1000000) (by kernel_rfl) (by kernel_rfl) (by kernel_rfl)
theorem fx_simple : PureF Tryz.prog 12 [fxSafe, fxPage, .int .i64 0, .agg [.int .i64 1, .str [], .str [], .int .i64 0, .int .i64 0, .ps 0 []]] (.int .i64 0) := pureF_evk mix T_ok T_in (n := 1000000) (by kernel_rfl) (by kernel_rfl) (by kernel_rfl)
theorem fx_and0 : PureF Tryz.prog 27 [.ps 0 []] (.int .i64 2) := pureF_evk mix T_ok T_in (n := 1000000) (by kernel_rfl) (by kernel_rfl) (by kernel_rfl)
theorem fx_or0 : PureF Tryz.prog 28 [.ps 0 []] (.int .i64 0) := pureF_evk mix T_ok T_in (n := 1000000) (by kernel_rfl) (by kernel_rfl) (by kernel_rfl)
theorem fx_and1 : PureF Tryz.prog 27 [.ps 2 [.int .i64 2, .int .i64 1]] (.int .i64 1) := pureF_evk mix T_ok T_in (n := 1000000) (by kernel_rfl) (by kernel_rfl) (by kernel_rfl)
theorem fx_or1 : PureF Tryz.prog 28 [.ps 2 [.int .i64 (-5), .int .i64 1]] (.int .i64 1) := pureF_evk mix T_ok T_in (n := 1000000) (by kernel_rfl) (by kernel_rfl) (by kernel_rfl)
theorem fx_not1 : PureF Tryz.prog 26 [.int .i64 9] (.int .i64 0) := pureF_evk mix T_ok T_in (n := 1000000) (by kernel_rfl) (by kernel_rfl) (by kernel_rfl)
theorem fx_not2 : PureF Tryz.prog 26 [.int .i64 1] (.int .i64 1) := pureF_evk mix T_ok T_in (n := 1000000) (by kernel_rfl) (by kernel_rfl) (by kernel_rfl)
end W14
/- The fixed calls: values, part 4. -/
set_option linter.unusedVariables false
namespace W14
open Go Go.AX Go.Proofs
theorem fx_any2 : PureF Tryz.prog 16 [fxSafe, fxPage, fxSel2] (.int .i64 0) := pureF_evk mix T_ok T_in (n := 1000000) (by kernel_rfl) (by kernel_rfl) (by kernel_rfl)
theorem fx_any5 : PureF Tryz.prog 16 [fxSafe, fxPage, fxSel5] (.int .i64 1) := pureF_evk mix T_ok T_in (n := 1000000) (by kernel_rfl) (by kernel_rfl) (by kernel_rfl)
theorem fx_any8 : PureF Tryz.prog 16 [fxSafe, fxPage, fxSel8] (.int .i64 2) := pureF_evk mix T_ok T_in (n := 1000000) (by kernel_rfl) (by kernel_rfl) (by kernel_rfl)
theorem fx_any11 : PureF Tryz.prog 16 [fxSafe, fxPage, fxSel11] (.int .i64 0) := pureF_evk mix T_ok T_in (n := 1000000) (by kernel_rfl) (by kernel_rfl) (by kernel_rfl)
theorem fx_anyN : PureF Tryz.prog 16 [fxSafe, .ps 0 [], fxSel13] (.int .i64 0) := pureF_evk mix T_ok T_in (n := 1000000) (by kernel_rfl) (by kernel_rfl) (by kernel_rfl)
theorem fx_anyE : PureF Tryz.prog 16 [fxSafe, fxPage, .agg [.ps 0 [], .str []]] (.int .i64 0) := pureF_evk mix T_ok T_in (n := 1000000) (by kernel_rfl) (by kernel_rfl) (by kernel_rfl)
end W14
/- The fixed calls: all of them. -/
set_option linter.unusedSimpArgs false
set_option linter.unusedVariables false
namespace W14
open Go Go.AX Go.AX.Ty Go.Proofs

theorem view_page (g : Nat → Option AX.Obj) : view g fxPage = some (fxPage, []) := rfl
theorem ids_page : idsD fxPage = [] := rfl
theorem view_sel0 (g : Nat → Option AX.Obj) : view g fxSel0 = some (fxSel0, []) := rfl
theorem ids_sel0 : idsD fxSel0 = [] := rfl
theorem view_sel1 (g : Nat → Option AX.Obj) : view g fxSel1 = some (fxSel1, []) := rfl
theorem ids_sel1 : idsD fxSel1 = [] := rfl
theorem view_sel2 (g : Nat → Option AX.Obj) : view g fxSel2 = some (fxSel2, []) := rfl
theorem ids_sel2 : idsD fxSel2 = [] := rfl
theorem view_sel3 (g : Nat → Option AX.Obj) : view g fxSel3 = some (fxSel3, []) := rfl
theorem ids_sel3 : idsD fxSel3 = [] := rfl
theorem view_sel4 (g : Nat → Option AX.Obj) : view g fxSel4 = some (fxSel4, []) := rfl
theorem ids_sel4 : idsD fxSel4 = [] := rfl
theorem view_sel5 (g : Nat → Option AX.Obj) : view g fxSel5 = some (fxSel5, []) := rfl
theorem ids_sel5 : idsD fxSel5 = [] := rfl
theorem view_sel6 (g : Nat → Option AX.Obj) : view g fxSel6 = some (fxSel6, []) := rfl
theorem ids_sel6 : idsD fxSel6 = [] := rfl
theorem view_sel7 (g : Nat → Option AX.Obj) : view g fxSel7 = some (fxSel7, []) := rfl
theorem ids_sel7 : idsD fxSel7 = [] := rfl
theorem view_sel8 (g : Nat → Option AX.Obj) : view g fxSel8 = some (fxSel8, []) := rfl
theorem ids_sel8 : idsD fxSel8 = [] := rfl
theorem view_sel9 (g : Nat → Option AX.Obj) : view g fxSel9 = some (fxSel9, []) := rfl
theorem ids_sel9 : idsD fxSel9 = [] := rfl
theorem view_sel10 (g : Nat → Option AX.Obj) : view g fxSel10 = some (fxSel10, []) := rfl
theorem ids_sel10 : idsD fxSel10 = [] := rfl
theorem view_sel11 (g : Nat → Option AX.Obj) : view g fxSel11 = some (fxSel11, []) := rfl
theorem ids_sel11 : idsD fxSel11 = [] := rfl
theorem view_sel12 (g : Nat → Option AX.Obj) : view g fxSel12 = some (fxSel12, []) := rfl
theorem ids_sel12 : idsD fxSel12 = [] := rfl
theorem view_sel13 (g : Nat → Option AX.Obj) : view g fxSel13 = some (fxSel13, []) := rfl
theorem ids_sel13 : idsD fxSel13 = [] := rfl
set_option maxRecDepth 100000 in
theorem w_fixed : PureF Tryz.prog 11 [] (.bool true) := by
  refine pureF_W mix c11 (by kernel_rfl) (by kernel_rfl) rfl rfl ?_
  simp -implicitDefEqProofs only [F11, go_sem, Int.reduceNeg]
  refine callI_pure fx_page ?_
  simp -implicitDefEqProofs only [go_sem, Nat.reduceAdd, Nat.reduceEqDiff, Nat.reduceLeDiff, ↓reduceIte]
  rw [LoopI_def]
  refine ⟨13, ?_⟩
  simp -implicitDefEqProofs only [view_page, ids_page, view_sel0, ids_sel0, go_sem, Int.reduceLT, Int.reduceNeg, Int.reduceToNat, Nat.reduceAdd, Nat.reduceEqDiff, Nat.reduceLT, ↓reduceIte]
  refine dcallI_pure fx_sel0 ?_
  simp -implicitDefEqProofs only [view_page, ids_page, view_sel0, ids_sel0, go_sem, Nat.reduceEqDiff, reduceCtorEq, ↓reduceIte]
  refine dcallI_pure fx_any0 ?_
  simp -implicitDefEqProofs only [view_page, ids_page, view_sel0, ids_sel0, go_sem, Int.reduceToNat, Nat.reduceAdd, Nat.reduceEqDiff, Nat.reduceLT, ↓reduceIte]
  refine andI_intro (by kernel_rfl) ?_
  simp -implicitDefEqProofs only [view_page, ids_page, view_sel1, ids_sel1, go_sem, Int.reduceAdd, Int.reduceLE, Int.reduceLT, Int.reduceNeg, Int.reduceToNat, Nat.reduceAdd, Nat.reduceEqDiff, Nat.reduceLT, Nat.reduceLeDiff, ↓reduceIte]
  refine dcallI_pure fx_sel1 ?_
  simp -implicitDefEqProofs only [view_page, ids_page, view_sel1, ids_sel1, go_sem, Nat.reduceEqDiff, reduceCtorEq, ↓reduceIte]
  refine dcallI_pure fx_any1 ?_
  simp -implicitDefEqProofs only [view_page, ids_page, view_sel1, ids_sel1, go_sem, Int.reduceLE, Int.reduceToNat, Nat.reduceAdd, Nat.reduceEqDiff, Nat.reduceLT, Nat.reduceLeDiff, ↓reduceIte]
  refine andI_intro (by kernel_rfl) ?_
  simp -implicitDefEqProofs only [view_page, ids_page, view_sel2, ids_sel2, go_sem, Int.reduceAdd, Int.reduceLE, Int.reduceLT, Int.reduceNeg, Int.reduceToNat, Nat.reduceAdd, Nat.reduceEqDiff, Nat.reduceLT, Nat.reduceLeDiff, ↓reduceIte]
  refine dcallI_pure fx_sel2 ?_
  simp -implicitDefEqProofs only [view_page, ids_page, view_sel2, ids_sel2, go_sem, Nat.reduceEqDiff, reduceCtorEq, ↓reduceIte]
  refine dcallI_pure fx_any2 ?_
  simp -implicitDefEqProofs only [view_page, ids_page, view_sel2, ids_sel2, go_sem, Int.reduceLE, Int.reduceToNat, Nat.reduceAdd, Nat.reduceEqDiff, Nat.reduceLT, Nat.reduceLeDiff, ↓reduceIte]
  refine andI_intro (by kernel_rfl) ?_
  simp -implicitDefEqProofs only [view_page, ids_page, view_sel3, ids_sel3, go_sem, Int.reduceAdd, Int.reduceLE, Int.reduceLT, Int.reduceNeg, Int.reduceToNat, Nat.reduceAdd, Nat.reduceEqDiff, Nat.reduceLT, Nat.reduceLeDiff, ↓reduceIte]
  refine dcallI_pure fx_sel3 ?_
  simp -implicitDefEqProofs only [view_page, ids_page, view_sel3, ids_sel3, go_sem, Nat.reduceEqDiff, reduceCtorEq, ↓reduceIte]
  refine dcallI_pure fx_any3 ?_
  simp -implicitDefEqProofs only [view_page, ids_page, view_sel3, ids_sel3, go_sem, Int.reduceLE, Int.reduceToNat, Nat.reduceAdd, Nat.reduceEqDiff, Nat.reduceLT, Nat.reduceLeDiff, ↓reduceIte]
  refine andI_intro (by kernel_rfl) ?_
  simp -implicitDefEqProofs only [view_page, ids_page, view_sel4, ids_sel4, go_sem, Int.reduceAdd, Int.reduceLE, Int.reduceLT, Int.reduceNeg, Int.reduceToNat, Nat.reduceAdd, Nat.reduceEqDiff, Nat.reduceLT, Nat.reduceLeDiff, ↓reduceIte]
  refine dcallI_pure fx_sel4 ?_
  simp -implicitDefEqProofs only [view_page, ids_page, view_sel4, ids_sel4, go_sem, Nat.reduceEqDiff, reduceCtorEq, ↓reduceIte]
  refine dcallI_pure fx_any4 ?_
  simp -implicitDefEqProofs only [view_page, ids_page, view_sel4, ids_sel4, go_sem, Int.reduceLE, Int.reduceToNat, Nat.reduceAdd, Nat.reduceEqDiff, Nat.reduceLT, Nat.reduceLeDiff, ↓reduceIte]
  refine andI_intro (by kernel_rfl) ?_
  simp -implicitDefEqProofs only [view_page, ids_page, view_sel5, ids_sel5, go_sem, Int.reduceAdd, Int.reduceLE, Int.reduceLT, Int.reduceNeg, Int.reduceToNat, Nat.reduceAdd, Nat.reduceEqDiff, Nat.reduceLT, Nat.reduceLeDiff, ↓reduceIte]
  refine dcallI_pure fx_sel5 ?_
  simp -implicitDefEqProofs only [view_page, ids_page, view_sel5, ids_sel5, go_sem, Nat.reduceEqDiff, reduceCtorEq, ↓reduceIte]
  refine dcallI_pure fx_any5 ?_
  simp -implicitDefEqProofs only [view_page, ids_page, view_sel5, ids_sel5, go_sem, Int.reduceLE, Int.reduceToNat, Nat.reduceAdd, Nat.reduceEqDiff, Nat.reduceLT, Nat.reduceLeDiff, ↓reduceIte]
  refine andI_intro (by kernel_rfl) ?_
  simp -implicitDefEqProofs only [view_page, ids_page, view_sel6, ids_sel6, go_sem, Int.reduceAdd, Int.reduceLE, Int.reduceLT, Int.reduceNeg, Int.reduceToNat, Nat.reduceAdd, Nat.reduceEqDiff, Nat.reduceLT, Nat.reduceLeDiff, ↓reduceIte]
  refine dcallI_pure fx_sel6 ?_
  simp -implicitDefEqProofs only [view_page, ids_page, view_sel6, ids_sel6, go_sem, Nat.reduceEqDiff, reduceCtorEq, ↓reduceIte]
  refine dcallI_pure fx_any6 ?_
  simp -implicitDefEqProofs only [view_page, ids_page, view_sel6, ids_sel6, go_sem, Int.reduceLE, Int.reduceToNat, Nat.reduceAdd, Nat.reduceEqDiff, Nat.reduceLT, Nat.reduceLeDiff, ↓reduceIte]
  refine andI_intro (by kernel_rfl) ?_
  simp -implicitDefEqProofs only [view_page, ids_page, view_sel7, ids_sel7, go_sem, Int.reduceAdd, Int.reduceLE, Int.reduceLT, Int.reduceNeg, Int.reduceToNat, Nat.reduceAdd, Nat.reduceEqDiff, Nat.reduceLT, Nat.reduceLeDiff, ↓reduceIte]
  refine dcallI_pure fx_sel7 ?_
  simp -implicitDefEqProofs only [view_page, ids_page, view_sel7, ids_sel7, go_sem, Nat.reduceEqDiff, reduceCtorEq, ↓reduceIte]
  refine dcallI_pure fx_any7 ?_
  simp -implicitDefEqProofs only [view_page, ids_page, view_sel7, ids_sel7, go_sem, Int.reduceLE, Int.reduceToNat, Nat.reduceAdd, Nat.reduceEqDiff, Nat.reduceLT, Nat.reduceLeDiff, ↓reduceIte]
  refine andI_intro (by kernel_rfl) ?_
  simp -implicitDefEqProofs only [view_page, ids_page, view_sel8, ids_sel8, go_sem, Int.reduceAdd, Int.reduceLE, Int.reduceLT, Int.reduceNeg, Int.reduceToNat, Nat.reduceAdd, Nat.reduceEqDiff, Nat.reduceLT, Nat.reduceLeDiff, ↓reduceIte]
  refine dcallI_pure fx_sel8 ?_
  simp -implicitDefEqProofs only [view_page, ids_page, view_sel8, ids_sel8, go_sem, Nat.reduceEqDiff, reduceCtorEq, ↓reduceIte]
  refine dcallI_pure fx_any8 ?_
  simp -implicitDefEqProofs only [view_page, ids_page, view_sel8, ids_sel8, go_sem, Int.reduceLE, Int.reduceToNat, Nat.reduceAdd, Nat.reduceEqDiff, Nat.reduceLT, Nat.reduceLeDiff, ↓reduceIte]
  refine andI_intro (by kernel_rfl) ?_
  simp -implicitDefEqProofs only [view_page, ids_page, view_sel9, ids_sel9, go_sem, Int.reduceAdd, Int.reduceLE, Int.reduceLT, Int.reduceNeg, Int.reduceToNat, Nat.reduceAdd, Nat.reduceEqDiff, Nat.reduceLT, Nat.reduceLeDiff, ↓reduceIte]
  refine dcallI_pure fx_sel9 ?_
  simp -implicitDefEqProofs only [view_page, ids_page, view_sel9, ids_sel9, go_sem, Nat.reduceEqDiff, reduceCtorEq, ↓reduceIte]
  refine dcallI_pure fx_any9 ?_
  simp -implicitDefEqProofs only [view_page, ids_page, view_sel9, ids_sel9, go_sem, Int.reduceLE, Int.reduceToNat, Nat.reduceAdd, Nat.reduceEqDiff, Nat.reduceLT, Nat.reduceLeDiff, ↓reduceIte]
  refine andI_intro (by kernel_rfl) ?_
  simp -implicitDefEqProofs only [view_page, ids_page, view_sel10, ids_sel10, go_sem, Int.reduceAdd, Int.reduceLE, Int.reduceLT, Int.reduceNeg, Int.reduceToNat, Nat.reduceAdd, Nat.reduceEqDiff, Nat.reduceLT, Nat.reduceLeDiff, ↓reduceIte]
  refine dcallI_pure fx_sel10 ?_
  simp -implicitDefEqProofs only [view_page, ids_page, view_sel10, ids_sel10, go_sem, Nat.reduceEqDiff, reduceCtorEq, ↓reduceIte]
  refine dcallI_pure fx_any10 ?_
  simp -implicitDefEqProofs only [view_page, ids_page, view_sel10, ids_sel10, go_sem, Int.reduceLE, Int.reduceToNat, Nat.reduceAdd, Nat.reduceEqDiff, Nat.reduceLT, Nat.reduceLeDiff, ↓reduceIte]
  refine andI_intro (by kernel_rfl) ?_
  simp -implicitDefEqProofs only [view_page, ids_page, view_sel11, ids_sel11, go_sem, Int.reduceAdd, Int.reduceLE, Int.reduceLT, Int.reduceNeg, Int.reduceToNat, Nat.reduceAdd, Nat.reduceEqDiff, Nat.reduceLT, Nat.reduceLeDiff, ↓reduceIte]
  refine dcallI_pure fx_sel11 ?_
  simp -implicitDefEqProofs only [view_page, ids_page, view_sel11, ids_sel11, go_sem, Nat.reduceEqDiff, reduceCtorEq, ↓reduceIte]
  refine dcallI_pure fx_any11 ?_
  simp -implicitDefEqProofs only [view_page, ids_page, view_sel11, ids_sel11, go_sem, Int.reduceLE, Int.reduceToNat, Nat.reduceAdd, Nat.reduceEqDiff, Nat.reduceLT, Nat.reduceLeDiff, ↓reduceIte]
  refine andI_intro (by kernel_rfl) ?_
  simp -implicitDefEqProofs only [view_page, ids_page, view_sel12, ids_sel12, view_sel13, ids_sel13, go_sem, Int.reduceAdd, Int.reduceLE, Int.reduceLT, Int.reduceNeg, Nat.reduceEqDiff, ↓reduceIte]
  refine dcallI_pure fx_and0 ?_
  simp -implicitDefEqProofs only [view_page, ids_page, view_sel12, ids_sel12, view_sel13, ids_sel13, go_sem, ↓reduceIte]
  refine dcallI_pure fx_or0 ?_
  simp -implicitDefEqProofs only [view_page, ids_page, view_sel12, ids_sel12, view_sel13, ids_sel13, go_sem, Nat.reduceAdd, Nat.reduceEqDiff, Nat.reduceLeDiff, ↓reduceIte]
  refine dcallI_pure fx_and1 ?_
  simp -implicitDefEqProofs only [view_page, ids_page, view_sel12, ids_sel12, view_sel13, ids_sel13, go_sem, Int.reduceNeg, Nat.reduceAdd, Nat.reduceEqDiff, Nat.reduceLeDiff, ↓reduceIte]
  refine dcallI_pure fx_or1 ?_
  simp -implicitDefEqProofs only [view_page, ids_page, view_sel12, ids_sel12, view_sel13, ids_sel13, go_sem, Int.reduceNeg, Nat.reduceEqDiff, ↓reduceIte]
  refine dcallI_pure fx_not1 ?_
  simp -implicitDefEqProofs only [view_page, ids_page, view_sel12, ids_sel12, view_sel13, ids_sel13, go_sem, Int.reduceNeg, Nat.reduceEqDiff, ↓reduceIte]
  refine dcallI_pure fx_not2 ?_
  simp -implicitDefEqProofs only [view_page, ids_page, view_sel12, ids_sel12, view_sel13, ids_sel13, go_sem, Int.reduceNeg, Nat.reduceAdd, Nat.reduceEqDiff, Nat.reduceLT, ↓reduceIte]
  refine dcallI_pure fx_sel12 ?_
  simp -implicitDefEqProofs only [view_page, ids_page, view_sel12, ids_sel12, view_sel13, ids_sel13, go_sem, Int.reduceNeg, Nat.reduceEqDiff, reduceCtorEq, ↓reduceIte]
  refine dcallI_pure fx_of1 ?_
  simp -implicitDefEqProofs only [view_page, ids_page, view_sel12, ids_sel12, view_sel13, ids_sel13, go_sem, Int.reduceNeg, Nat.reduceAdd, Nat.reduceEqDiff, Nat.reduceLT, ↓reduceIte]
  refine dcallI_pure fx_sel12 ?_
  simp -implicitDefEqProofs only [view_page, ids_page, view_sel12, ids_sel12, view_sel13, ids_sel13, go_sem, Int.reduceNeg, Nat.reduceEqDiff, reduceCtorEq, ↓reduceIte]
  refine dcallI_pure fx_of2 ?_
  simp -implicitDefEqProofs only [view_page, ids_page, view_sel12, ids_sel12, view_sel13, ids_sel13, go_sem, Int.reduceNeg, Nat.reduceAdd, Nat.reduceEqDiff, Nat.reduceLT, Nat.reduceLeDiff, reduceCtorEq, ↓reduceIte]
  refine dcallI_pure fx_simple ?_
  simp -implicitDefEqProofs only [view_page, ids_page, view_sel12, ids_sel12, view_sel13, ids_sel13, go_sem, Int.reduceNeg, Nat.reduceAdd, Nat.reduceEqDiff, Nat.reduceLT, ↓reduceIte]
  refine dcallI_pure fx_sel13 ?_
  simp -implicitDefEqProofs only [view_page, ids_page, view_sel12, ids_sel12, view_sel13, ids_sel13, go_sem, Int.reduceNeg, Nat.reduceEqDiff, reduceCtorEq, ↓reduceIte]
  refine dcallI_pure fx_anyN ?_
  simp -implicitDefEqProofs only [view_page, ids_page, view_sel12, ids_sel12, view_sel13, ids_sel13, go_sem, Int.reduceNeg, Nat.reduceAdd, Nat.reduceEqDiff, Nat.reduceLT, reduceCtorEq, ↓reduceIte]
  refine dcallI_pure fx_anyE ?_
  simp -implicitDefEqProofs only [view_page, ids_page, view_sel12, ids_sel12, view_sel13, ids_sel13, go_sem, Int.reduceNeg, Nat.reduceEqDiff, Nat.reduceLT, ↓reduceIte]
  refine andI_intro (by kernel_rfl) ?_
  simp -implicitDefEqProofs only [view_page, ids_page, view_sel12, ids_sel12, view_sel13, ids_sel13, go_sem, Int.reduceNeg, ↓reduceIte]
end W14
