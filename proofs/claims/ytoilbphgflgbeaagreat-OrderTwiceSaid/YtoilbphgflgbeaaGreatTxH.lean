/- The fixed calls: their values, by running them. -/
import Derived.Test.YtoilbphgflgbeaaGreatTxG
set_option linter.unusedSimpArgs false
set_option linter.unusedVariables false
namespace W15
open Go Go.AX Go.AX.Ty Go.Proofs
theorem fx_tok : PureF Tryz.prog 112 [.str txA] (Enc.av fxT) :=
  pureF_evk mix T_ok T_in (n := 1000000) (by kernel_rfl) (by kernel_rfl) (by kernel_rfl)
theorem fx_val : PureF Tryz.prog 111 [Enc.av fxT, .int .i64 60] (.tup [Enc.av fxV, .int .i64 0]) :=
  pureF_evk mix T_ok T_in (n := 1000000) (by kernel_rfl) (by kernel_rfl) (by kernel_rfl)
theorem fx_trim : PureF Tryz.prog 77 [Enc.av fxV] (Enc.av fxV) :=
  pureF_evk mix T_ok T_in (n := 1000000) (by kernel_rfl) (by kernel_rfl) (by kernel_rfl)
theorem fx_items : PureF Tryz.prog 88 [Enc.av fxV] (Enc.av fxA) :=
  pureF_evk mix T_ok T_in (n := 1000000) (by kernel_rfl) (by kernel_rfl) (by kernel_rfl)
theorem fx_b : PureF Tryz.prog 36 [.str txB] (Enc.av fxB) :=
  pureF_evk mix T_ok T_in (n := 1000000) (by kernel_rfl) (by kernel_rfl) (by kernel_rfl)
theorem fx_p : PureF Tryz.prog 37 [.str txP] (.tup [Enc.av fxP, .int .i64 0]) :=
  pureF_evk mix T_ok T_in (n := 1000000) (by kernel_rfl) (by kernel_rfl) (by kernel_rfl)
end W15
