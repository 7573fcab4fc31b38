/- The fixed calls: their values. -/
import Derived.Test.YtjfknmjdkdcfjaaGreatAxE
import Derived.Test.YtjfknmjdkdcfjaaGreatTabB
set_option linter.unusedVariables false
namespace W12
open Go Go.AX Go.Proofs
theorem mix : Tryz.prog.follows .mixedOrders = true := by kernel_rfl
theorem T_in : TIn 8 T := by
  have h : (tbl.all fun o => match o with | some tf => funIn 8 tf.af | none => true) = true := by kernel_rfl
  intro f tf hf
  have hf' : tbl.getD f none = some tf := hf
  rw [List.getD_eq_getElem?_getD] at hf'
  have hm : some tf ∈ tbl := by
    cases ho : tbl[f]? with
    | none => rw [ho] at hf'; simp at hf'
    | some o =>
      rw [ho] at hf'
      simp only [Option.getD_some] at hf'
      subst hf'
      exact List.mem_of_getElem? ho
  exact List.all_eq_true.1 h _ hm
def fxPage : AV := (.ps 7 [(.str []), (.ps 0 []), (.str []), (.int .i64 (-1)), (.ps 1 [(.int .i64 1)]), (.str [104, 116, 109, 108]), (.ps 0 []), (.str []), (.int .i64 0), (.ps 1 [(.int .i64 2)]), (.str [97]), (.ps 1 [(.str [99, 108, 97, 115, 115]), (.str [120])]), (.str []), (.int .i64 1), (.ps 4 [(.int .i64 3), (.int .i64 4), (.int .i64 5), (.int .i64 6)]), (.str [98]), (.ps 1 [(.str [105, 100]), (.str [105])]), (.str []), (.int .i64 2), (.ps 0 []), (.str []), (.ps 0 []), (.str [116]), (.int .i64 2), (.ps 0 []), (.str [99]), (.ps 0 []), (.str []), (.int .i64 2), (.ps 0 []), (.str [98]), (.ps 1 [(.str [121]), (.str [122])]), (.str []), (.int .i64 2), (.ps 0 [])])
def fxSt : AV := .ps 1 [.int .i64 6, (.str [104, 111, 118, 101, 114])]
def fxSel0 : AV := (.agg [(.ps 2 [(.int .i64 0), (.ps 1 [(.int .i64 2), (.str [97]), (.str []), (.int .i64 0), (.int .i64 0), (.ps 0 [])]), (.int .i64 2), (.ps 1 [(.int .i64 2), (.str [98]), (.str []), (.int .i64 0), (.int .i64 0), (.ps 0 [])])]), (.str [])])
def fxSel1 : AV := (.agg [(.ps 2 [(.int .i64 0), (.ps 1 [(.int .i64 2), (.str [104, 116, 109, 108]), (.str []), (.int .i64 0), (.int .i64 0), (.ps 0 [])]), (.int .i64 1), (.ps 1 [(.int .i64 2), (.str [98]), (.str []), (.int .i64 0), (.int .i64 0), (.ps 0 [])])]), (.str [])])
def fxSel2 : AV := (.agg [(.ps 2 [(.int .i64 0), (.ps 1 [(.int .i64 2), (.str [98]), (.str []), (.int .i64 0), (.int .i64 0), (.ps 0 [])]), (.int .i64 3), (.ps 1 [(.int .i64 2), (.str [99]), (.str []), (.int .i64 0), (.int .i64 0), (.ps 0 [])])]), (.str [])])
def fxSel3 : AV := (.agg [(.ps 2 [(.int .i64 0), (.ps 1 [(.int .i64 2), (.str [98]), (.str []), (.int .i64 0), (.int .i64 0), (.ps 0 [])]), (.int .i64 4), (.ps 1 [(.int .i64 2), (.str [98]), (.str []), (.int .i64 0), (.int .i64 0), (.ps 0 [])])]), (.str [])])
def fxSel4 : AV := (.agg [(.ps 1 [(.int .i64 0), (.ps 1 [(.int .i64 3), (.str [105]), (.str []), (.int .i64 0), (.int .i64 0), (.ps 0 [])])]), (.str [])])
def fxSel5 : AV := (.agg [(.ps 2 [(.int .i64 0), (.ps 1 [(.int .i64 4), (.str [120]), (.str []), (.int .i64 0), (.int .i64 0), (.ps 0 [])]), (.int .i64 1), (.ps 1 [(.int .i64 1), (.str []), (.str []), (.int .i64 0), (.int .i64 0), (.ps 0 [])])]), (.str [])])
def fxSel6 : AV := (.agg [(.ps 1 [(.int .i64 0), (.ps 1 [(.int .i64 5), (.str [121]), (.str []), (.int .i64 0), (.int .i64 0), (.ps 0 [])])]), (.str [])])
def fxSel7 : AV := (.agg [(.ps 1 [(.int .i64 0), (.ps 1 [(.int .i64 6), (.str [121]), (.str [122]), (.int .i64 0), (.int .i64 0), (.ps 0 [])])]), (.str [])])
def fxSel8 : AV := (.agg [(.ps 1 [(.int .i64 0), (.ps 1 [(.int .i64 6), (.str [121]), (.str [119]), (.int .i64 0), (.int .i64 0), (.ps 0 [])])]), (.str [])])
def fxSel9 : AV := (.agg [(.ps 1 [(.int .i64 0), (.ps 1 [(.int .i64 7), (.str [104, 111, 118, 101, 114]), (.str []), (.int .i64 0), (.int .i64 0), (.ps 0 [])])]), (.str [])])
def fxSel10 : AV := (.agg [(.ps 1 [(.int .i64 0), (.ps 2 [(.int .i64 2), (.str [98]), (.str []), (.int .i64 0), (.int .i64 0), (.ps 0 []), (.int .i64 8), (.str []), (.str []), (.int .i64 2), (.int .i64 1), (.ps 0 [])])]), (.str [])])
def fxSel11 : AV := (.agg [(.ps 1 [(.int .i64 0), (.ps 1 [(.int .i64 9), (.str []), (.str []), (.int .i64 0), (.int .i64 0), (.ps 0 [])])]), (.str [])])
def fxSel12 : AV := (.agg [(.ps 1 [(.int .i64 0), (.ps 1 [(.int .i64 10), (.str []), (.str []), (.int .i64 0), (.int .i64 0), (.ps 0 [])])]), (.str [])])
def fxSel13 : AV := (.agg [(.ps 1 [(.int .i64 0), (.ps 1 [(.int .i64 11), (.str []), (.str []), (.int .i64 0), (.int .i64 0), (.ps 1 [(.int .i64 2), (.str [98]), (.str []), (.int .i64 0), (.int .i64 0), (.ps 0 [])])])]), (.str [])])
def fxSel14 : AV := (.agg [(.ps 2 [(.int .i64 0), (.ps 1 [(.int .i64 2), (.str [97]), (.str []), (.int .i64 0), (.int .i64 0), (.ps 0 [])]), (.int .i64 1), (.ps 2 [(.int .i64 2), (.str [98]), (.str []), (.int .i64 0), (.int .i64 0), (.ps 0 []), (.int .i64 8), (.str []), (.str []), (.int .i64 0), (.int .i64 1), (.ps 0 [])])]), (.str [97, 102, 116, 101, 114])])
def fxSel15 : AV := (.agg [(.ps 2 [(.int .i64 0), (.ps 1 [(.int .i64 2), (.str [97]), (.str []), (.int .i64 0), (.int .i64 0), (.ps 0 [])]), (.int .i64 2), (.ps 1 [(.int .i64 2), (.str [97]), (.str []), (.int .i64 0), (.int .i64 0), (.ps 0 [])])]), (.str [])])
def fxSel16 : AV := (.agg [(.ps 2 [(.int .i64 0), (.ps 1 [(.int .i64 2), (.str [97]), (.str []), (.int .i64 0), (.int .i64 0), (.ps 0 [])]), (.int .i64 1), (.ps 1 [(.int .i64 2), (.str [98]), (.str []), (.int .i64 0), (.int .i64 0), (.ps 0 [])])]), (.str [])])
def fxSel17 : AV := (.agg [(.ps 1 [(.int .i64 0), (.ps 1 [(.int .i64 1), (.str []), (.str []), (.int .i64 0), (.int .i64 0), (.ps 0 [])])]), (.str [])])
theorem fx_page : PureF Tryz.prog 29 [(.str [60, 104, 116, 109, 108, 62, 60, 97, 32, 99, 108, 97, 115, 115, 61, 120, 62, 60, 98, 32, 105, 100, 61, 105, 62, 60, 47, 98, 62, 116, 60, 99, 62, 60, 47, 99, 62, 60, 98, 32, 121, 61, 122, 62, 60, 47, 98, 62, 60, 47, 97, 62, 60, 47, 104, 116, 109, 108, 62])] (.tup [fxPage, .int .i64 0]) := pureF_evk mix T_ok T_in (n := 1000000) (by kernel_rfl) (by kernel_rfl) (by kernel_rfl)
theorem fx_sel0 : PureF Tryz.prog 30 [(.str [97, 32, 62, 32, 98])] (fxSel0) := pureF_evk mix T_ok T_in (n := 1000000) (by kernel_rfl) (by kernel_rfl) (by kernel_rfl)
theorem fx_sel1 : PureF Tryz.prog 30 [(.str [104, 116, 109, 108, 32, 98])] (fxSel1) := pureF_evk mix T_ok T_in (n := 1000000) (by kernel_rfl) (by kernel_rfl) (by kernel_rfl)
theorem fx_sel2 : PureF Tryz.prog 30 [(.str [98, 32, 43, 32, 99])] (fxSel2) := pureF_evk mix T_ok T_in (n := 1000000) (by kernel_rfl) (by kernel_rfl) (by kernel_rfl)
theorem fx_sel3 : PureF Tryz.prog 30 [(.str [98, 32, 126, 32, 98])] (fxSel3) := pureF_evk mix T_ok T_in (n := 1000000) (by kernel_rfl) (by kernel_rfl) (by kernel_rfl)
theorem fx_sel4 : PureF Tryz.prog 30 [(.str [35, 105])] (fxSel4) := pureF_evk mix T_ok T_in (n := 1000000) (by kernel_rfl) (by kernel_rfl) (by kernel_rfl)
theorem fx_sel5 : PureF Tryz.prog 30 [(.str [46, 120, 32, 42])] (fxSel5) := pureF_evk mix T_ok T_in (n := 1000000) (by kernel_rfl) (by kernel_rfl) (by kernel_rfl)
theorem fx_sel6 : PureF Tryz.prog 30 [(.str [91, 121, 93])] (fxSel6) := pureF_evk mix T_ok T_in (n := 1000000) (by kernel_rfl) (by kernel_rfl) (by kernel_rfl)
theorem fx_sel7 : PureF Tryz.prog 30 [(.str [91, 121, 61, 122, 93])] (fxSel7) := pureF_evk mix T_ok T_in (n := 1000000) (by kernel_rfl) (by kernel_rfl) (by kernel_rfl)
theorem fx_sel8 : PureF Tryz.prog 30 [(.str [91, 121, 61, 119, 93])] (fxSel8) := pureF_evk mix T_ok T_in (n := 1000000) (by kernel_rfl) (by kernel_rfl) (by kernel_rfl)
theorem fx_sel9 : PureF Tryz.prog 30 [(.str [58, 104, 111, 118, 101, 114])] (fxSel9) := pureF_evk mix T_ok T_in (n := 1000000) (by kernel_rfl) (by kernel_rfl) (by kernel_rfl)
theorem fx_sel10 : PureF Tryz.prog 30 [(.str [98, 58, 110, 116, 104, 45, 99, 104, 105, 108, 100, 40, 50, 110, 43, 49, 41])] (fxSel10) := pureF_evk mix T_ok T_in (n := 1000000) (by kernel_rfl) (by kernel_rfl) (by kernel_rfl)
theorem fx_sel11 : PureF Tryz.prog 30 [(.str [58, 114, 111, 111, 116])] (fxSel11) := pureF_evk mix T_ok T_in (n := 1000000) (by kernel_rfl) (by kernel_rfl) (by kernel_rfl)
theorem fx_sel12 : PureF Tryz.prog 30 [(.str [58, 101, 109, 112, 116, 121])] (fxSel12) := pureF_evk mix T_ok T_in (n := 1000000) (by kernel_rfl) (by kernel_rfl) (by kernel_rfl)
theorem fx_sel13 : PureF Tryz.prog 30 [(.str [58, 110, 111, 116, 40, 98, 41])] (fxSel13) := pureF_evk mix T_ok T_in (n := 1000000) (by kernel_rfl) (by kernel_rfl) (by kernel_rfl)
theorem fx_sel14 : PureF Tryz.prog 30 [(.str [97, 32, 98, 58, 102, 105, 114, 115, 116, 45, 99, 104, 105, 108, 100, 58, 58, 97, 102, 116, 101, 114])] (fxSel14) := pureF_evk mix T_ok T_in (n := 1000000) (by kernel_rfl) (by kernel_rfl) (by kernel_rfl)
theorem fx_sel15 : PureF Tryz.prog 30 [(.str [97, 32, 62, 32, 97])] (fxSel15) := pureF_evk mix T_ok T_in (n := 1000000) (by kernel_rfl) (by kernel_rfl) (by kernel_rfl)
theorem fx_sel16 : PureF Tryz.prog 30 [(.str [97, 32, 98])] (fxSel16) := pureF_evk mix T_ok T_in (n := 1000000) (by kernel_rfl) (by kernel_rfl) (by kernel_rfl)
theorem fx_sel17 : PureF Tryz.prog 30 [(.str [42])] (fxSel17) := pureF_evk mix T_ok T_in (n := 1000000) (by kernel_rfl) (by kernel_rfl) (by kernel_rfl)
end W12
