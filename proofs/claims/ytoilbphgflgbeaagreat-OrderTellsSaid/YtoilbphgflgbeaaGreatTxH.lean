/- The fixed calls: their values, by running them. -/
import Derived.Test.YtoilbphgflgbeaaGreatTxG
set_option linter.unusedSimpArgs false
set_option linter.unusedVariables false
namespace W15
open Go Go.AX Go.AX.Ty Go.Proofs
theorem TY:aK Tryz.prog 112 [.str Vm] (Enc.av VX):=
  ko mix KF J5 (n:=1000000) (by kernel_rfl) (by kernel_rfl) (by kernel_rfl)
theorem Tp:aK Tryz.prog 111 [Enc.av VX,.int .i64 60] (.tup [Enc.av UW,.int .i64 0]):=
  ko mix KF J5 (n:=1000000) (by kernel_rfl) (by kernel_rfl) (by kernel_rfl)
theorem Qt:aK Tryz.prog 77 [Enc.av UW] (Enc.av UW):=
  ko mix KF J5 (n:=1000000) (by kernel_rfl) (by kernel_rfl) (by kernel_rfl)
theorem M7:aK Tryz.prog 88 [Enc.av UW] (Enc.av mo):=
  ko mix KF J5 (n:=1000000) (by kernel_rfl) (by kernel_rfl) (by kernel_rfl)
theorem Vv:aK Tryz.prog 36 [.str V8] (Enc.av uT):=
  ko mix KF J5 (n:=1000000) (by kernel_rfl) (by kernel_rfl) (by kernel_rfl)
theorem Vu:aK Tryz.prog 37 [.str V5] (.tup [Enc.av Iq,.int .i64 0]):=
  ko mix KF J5 (n:=1000000) (by kernel_rfl) (by kernel_rfl) (by kernel_rfl)
end W15
