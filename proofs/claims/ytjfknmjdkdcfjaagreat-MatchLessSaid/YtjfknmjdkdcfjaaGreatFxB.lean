/- The fixed calls: values, part 2. -/
import Derived.Test.YtjfknmjdkdcfjaaGreatFxA
set_option linter.unusedVariables false
namespace W12
open Go Go.AX Go.Proofs
theorem fx_all0 : PureF Tryz.prog 14 [fxPage, fxSt, fxSel0] (.ps 2 [.int .i64 3, .int .i64 6]) := pureF_evk mix T_ok T_in (n := 1000000) (by kernel_rfl) (by kernel_rfl) (by kernel_rfl)
theorem fx_all3 : PureF Tryz.prog 14 [fxPage, fxSt, fxSel3] (.ps 1 [.int .i64 6]) := pureF_evk mix T_ok T_in (n := 1000000) (by kernel_rfl) (by kernel_rfl) (by kernel_rfl)
theorem fx_all6 : PureF Tryz.prog 14 [fxPage, fxSt, fxSel6] (.ps 1 [.int .i64 6]) := pureF_evk mix T_ok T_in (n := 1000000) (by kernel_rfl) (by kernel_rfl) (by kernel_rfl)
theorem fx_all9 : PureF Tryz.prog 14 [fxPage, fxSt, fxSel9] (.ps 1 [.int .i64 6]) := pureF_evk mix T_ok T_in (n := 1000000) (by kernel_rfl) (by kernel_rfl) (by kernel_rfl)
theorem fx_all12 : PureF Tryz.prog 14 [fxPage, fxSt, fxSel12] (.ps 3 [.int .i64 3, .int .i64 5, .int .i64 6]) := pureF_evk mix T_ok T_in (n := 1000000) (by kernel_rfl) (by kernel_rfl) (by kernel_rfl)
theorem fx_all15 : PureF Tryz.prog 14 [fxPage, fxSt, fxSel15] (.ps 0 []) := pureF_evk mix T_ok T_in (n := 1000000) (by kernel_rfl) (by kernel_rfl) (by kernel_rfl)
theorem fx_is16 : PureF Tryz.prog 16 [fxPage, fxSt, .int .i64 3, fxSel16] (.bool true) := pureF_evk mix T_ok T_in (n := 1000000) (by kernel_rfl) (by kernel_rfl) (by kernel_rfl)
theorem fx_is17 : PureF Tryz.prog 16 [fxPage, fxSt, .int .i64 4, fxSel17] (.bool false) := pureF_evk mix T_ok T_in (n := 1000000) (by kernel_rfl) (by kernel_rfl) (by kernel_rfl)
end W12
/- The fixed calls: values, part 3. -/
set_option linter.unusedVariables false
namespace W12
open Go Go.AX Go.Proofs
theorem fx_all1 : PureF Tryz.prog 14 [fxPage, fxSt, fxSel1] (.ps 2 [.int .i64 3, .int .i64 6]) := pureF_evk mix T_ok T_in (n := 1000000) (by kernel_rfl) (by kernel_rfl) (by kernel_rfl)
theorem fx_all4 : PureF Tryz.prog 14 [fxPage, fxSt, fxSel4] (.ps 1 [.int .i64 3]) := pureF_evk mix T_ok T_in (n := 1000000) (by kernel_rfl) (by kernel_rfl) (by kernel_rfl)
theorem fx_all7 : PureF Tryz.prog 14 [fxPage, fxSt, fxSel7] (.ps 1 [.int .i64 6]) := pureF_evk mix T_ok T_in (n := 1000000) (by kernel_rfl) (by kernel_rfl) (by kernel_rfl)
theorem fx_all10 : PureF Tryz.prog 14 [fxPage, fxSt, fxSel10] (.ps 2 [.int .i64 3, .int .i64 6]) := pureF_evk mix T_ok T_in (n := 1000000) (by kernel_rfl) (by kernel_rfl) (by kernel_rfl)
theorem fx_all13 : PureF Tryz.prog 14 [fxPage, fxSt, fxSel13] (.ps 3 [.int .i64 1, .int .i64 2, .int .i64 5]) := pureF_evk mix T_ok T_in (n := 1000000) (by kernel_rfl) (by kernel_rfl) (by kernel_rfl)
theorem fx_simple1 : PureF Tryz.prog 11 [fxPage, fxSt, .int .i64 2, .agg [.int .i64 2, (.str [97]), .str [], .int .i64 0, .int .i64 0, .ps 0 []]] (.bool true) := pureF_evk mix T_ok T_in (n := 1000000) (by kernel_rfl) (by kernel_rfl) (by kernel_rfl)
theorem fx_simple2 : PureF Tryz.prog 11 [fxPage, fxSt, .int .i64 0, .agg [.int .i64 1, .str [], .str [], .int .i64 0, .int .i64 0, .ps 0 []]] (.bool false) := pureF_evk mix T_ok T_in (n := 1000000) (by kernel_rfl) (by kernel_rfl) (by kernel_rfl)
end W12
/- The fixed calls: values, part 4. -/
set_option linter.unusedVariables false
namespace W12
open Go Go.AX Go.Proofs
theorem fx_all2 : PureF Tryz.prog 14 [fxPage, fxSt, fxSel2] (.ps 1 [.int .i64 5]) := pureF_evk mix T_ok T_in (n := 1000000) (by kernel_rfl) (by kernel_rfl) (by kernel_rfl)
theorem fx_all5 : PureF Tryz.prog 14 [fxPage, fxSt, fxSel5] (.ps 3 [.int .i64 3, .int .i64 5, .int .i64 6]) := pureF_evk mix T_ok T_in (n := 1000000) (by kernel_rfl) (by kernel_rfl) (by kernel_rfl)
theorem fx_all8 : PureF Tryz.prog 14 [fxPage, fxSt, fxSel8] (.ps 0 []) := pureF_evk mix T_ok T_in (n := 1000000) (by kernel_rfl) (by kernel_rfl) (by kernel_rfl)
theorem fx_all11 : PureF Tryz.prog 14 [fxPage, fxSt, fxSel11] (.ps 1 [.int .i64 1]) := pureF_evk mix T_ok T_in (n := 1000000) (by kernel_rfl) (by kernel_rfl) (by kernel_rfl)
theorem fx_all14 : PureF Tryz.prog 14 [fxPage, fxSt, fxSel14] (.ps 1 [.int .i64 3]) := pureF_evk mix T_ok T_in (n := 1000000) (by kernel_rfl) (by kernel_rfl) (by kernel_rfl)
theorem fx_allE : PureF Tryz.prog 14 [fxPage, fxSt, .agg [.ps 0 [], .str []]] (.ps 0 []) := pureF_evk mix T_ok T_in (n := 1000000) (by kernel_rfl) (by kernel_rfl) (by kernel_rfl)
theorem fx_allN : PureF Tryz.prog 14 [.ps 0 [], .ps 0 [], fxSel17] (.ps 0 []) := pureF_evk mix T_ok T_in (n := 1000000) (by kernel_rfl) (by kernel_rfl) (by kernel_rfl)
end W12
