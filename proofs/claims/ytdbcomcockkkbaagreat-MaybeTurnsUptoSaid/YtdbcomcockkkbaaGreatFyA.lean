/- The fixed calls: their values. -/
import Derived.Test.YtdbcomcockkkbaaGreatAyE
import Derived.Test.YtdbcomcockkkbaaGreatTbB
set_option linter.unusedVariables false
namespace W14
open Go Go.AX Go.Proofs
theorem mix : Tryz.prog.follows .mixedOrders = true := by kernel_rfl
theorem T_in : TIn 8 T := by
  have h : (tbl.all fun o => match o with | some tf => funIn 8 tf.af | none => true) = true := by kernel_rfl
  intro f tf hf
  have hf' : tbl.getD f none = some tf := hf
  rw [List.getD_eq_getElem?_getD] at hf'
  have hm : some tf ∈ tbl := by
    cases ho : tbl[f]? with
    | none => rw [ho] at hf'; simp at hf'
    | some o =>
      rw [ho] at hf'
      simp only [Option.getD_some] at hf'
      subst hf'
      exact List.mem_of_getElem? ho
  exact List.all_eq_true.1 h _ hm
def fxPage : AV := (.ps 4 [(.str []), (.ps 0 []), (.str []), (.int .i64 (-1)), (.ps 1 [(.int .i64 1)]), (.str [104, 116, 109, 108]), (.ps 0 []), (.str []), (.int .i64 0), (.ps 2 [(.int .i64 2), (.int .i64 3)]), (.str [98]), (.ps 2 [(.str [99, 108, 97, 115, 115]), (.str [120]), (.str [105, 100]), (.str [105])]), (.str []), (.int .i64 1), (.ps 0 []), (.str [99]), (.ps 1 [(.str [121]), (.str [])]), (.str []), (.int .i64 1), (.ps 0 [])])
def fxSafe : AV := .agg [.ps 1 [(.str [97])], .ps 1 [(.str [105, 100])]]
def fxSel0 : AV := (.agg [(.ps 1 [(.int .i64 0), (.ps 1 [(.int .i64 4), (.str [97]), (.str []), (.int .i64 0), (.int .i64 0), (.ps 0 [])])]), (.str [])])
def fxSel1 : AV := (.agg [(.ps 1 [(.int .i64 0), (.ps 2 [(.int .i64 2), (.str [98]), (.str []), (.int .i64 0), (.int .i64 0), (.ps 0 []), (.int .i64 4), (.str [120]), (.str []), (.int .i64 0), (.int .i64 0), (.ps 0 [])])]), (.str [])])
def fxSel2 : AV := (.agg [(.ps 1 [(.int .i64 0), (.ps 1 [(.int .i64 4), (.str [122]), (.str []), (.int .i64 0), (.int .i64 0), (.ps 0 [])])]), (.str [])])
def fxSel3 : AV := (.agg [(.ps 1 [(.int .i64 0), (.ps 1 [(.int .i64 3), (.str [113]), (.str []), (.int .i64 0), (.int .i64 0), (.ps 0 [])])]), (.str [])])
def fxSel4 : AV := (.agg [(.ps 1 [(.int .i64 0), (.ps 1 [(.int .i64 5), (.str [99, 108, 97, 115, 115]), (.str []), (.int .i64 0), (.int .i64 0), (.ps 0 [])])]), (.str [])])
def fxSel5 : AV := (.agg [(.ps 1 [(.int .i64 0), (.ps 2 [(.int .i64 2), (.str [99]), (.str []), (.int .i64 0), (.int .i64 0), (.ps 0 []), (.int .i64 7), (.str [104, 111, 118, 101, 114]), (.str []), (.int .i64 0), (.int .i64 0), (.ps 0 [])])]), (.str [])])
def fxSel6 : AV := (.agg [(.ps 1 [(.int .i64 0), (.ps 2 [(.int .i64 2), (.str [98]), (.str []), (.int .i64 0), (.int .i64 0), (.ps 0 []), (.int .i64 11), (.str []), (.str []), (.int .i64 0), (.int .i64 0), (.ps 1 [(.int .i64 4), (.str [97]), (.str []), (.int .i64 0), (.int .i64 0), (.ps 0 [])])])]), (.str [])])
def fxSel7 : AV := (.agg [(.ps 1 [(.int .i64 0), (.ps 2 [(.int .i64 2), (.str [98]), (.str []), (.int .i64 0), (.int .i64 0), (.ps 0 []), (.int .i64 11), (.str []), (.str []), (.int .i64 0), (.int .i64 0), (.ps 1 [(.int .i64 4), (.str [120]), (.str []), (.int .i64 0), (.int .i64 0), (.ps 0 [])])])]), (.str [])])
def fxSel8 : AV := (.agg [(.ps 2 [(.int .i64 0), (.ps 1 [(.int .i64 2), (.str [98]), (.str []), (.int .i64 0), (.int .i64 0), (.ps 0 [])]), (.int .i64 3), (.ps 1 [(.int .i64 2), (.str [99]), (.str []), (.int .i64 0), (.int .i64 0), (.ps 0 [])])]), (.str [])])
def fxSel9 : AV := (.agg [(.ps 2 [(.int .i64 0), (.ps 1 [(.int .i64 2), (.str [104, 116, 109, 108]), (.str []), (.int .i64 0), (.int .i64 0), (.ps 0 [])]), (.int .i64 2), (.ps 1 [(.int .i64 2), (.str [99]), (.str []), (.int .i64 0), (.int .i64 0), (.ps 0 [])])]), (.str [])])
def fxSel10 : AV := (.agg [(.ps 0 []), (.str [])])
def fxSel11 : AV := (.agg [(.ps 2 [(.int .i64 0), (.ps 1 [(.int .i64 2), (.str [99]), (.str []), (.int .i64 0), (.int .i64 0), (.ps 0 [])]), (.int .i64 1), (.ps 1 [(.int .i64 2), (.str [98]), (.str []), (.int .i64 0), (.int .i64 0), (.ps 0 [])])]), (.str [])])
def fxSel12 : AV := (.agg [(.ps 1 [(.int .i64 0), (.ps 1 [(.int .i64 2), (.str [98]), (.str []), (.int .i64 0), (.int .i64 0), (.ps 0 [])])]), (.str [])])
def fxSel13 : AV := (.agg [(.ps 1 [(.int .i64 0), (.ps 1 [(.int .i64 1), (.str []), (.str []), (.int .i64 0), (.int .i64 0), (.ps 0 [])])]), (.str [])])
theorem fx_page : PureF Tryz.prog 32 [(.str [60, 104, 116, 109, 108, 62, 60, 98, 32, 99, 108, 97, 115, 115, 61, 120, 32, 105, 100, 61, 105, 62, 60, 47, 98, 62, 60, 99, 32, 121, 62, 60, 47, 99, 62, 60, 47, 104, 116, 109, 108, 62])] (.tup [fxPage, .int .i64 0]) := pureF_evk mix T_ok T_in (n := 1000000) (by kernel_rfl) (by kernel_rfl) (by kernel_rfl)
theorem fx_sel0 : PureF Tryz.prog 33 [(.str [46, 97])] (fxSel0) := pureF_evk mix T_ok T_in (n := 1000000) (by kernel_rfl) (by kernel_rfl) (by kernel_rfl)
theorem fx_sel1 : PureF Tryz.prog 33 [(.str [98, 46, 120])] (fxSel1) := pureF_evk mix T_ok T_in (n := 1000000) (by kernel_rfl) (by kernel_rfl) (by kernel_rfl)
theorem fx_sel2 : PureF Tryz.prog 33 [(.str [46, 122])] (fxSel2) := pureF_evk mix T_ok T_in (n := 1000000) (by kernel_rfl) (by kernel_rfl) (by kernel_rfl)
theorem fx_sel3 : PureF Tryz.prog 33 [(.str [35, 113])] (fxSel3) := pureF_evk mix T_ok T_in (n := 1000000) (by kernel_rfl) (by kernel_rfl) (by kernel_rfl)
theorem fx_sel4 : PureF Tryz.prog 33 [(.str [91, 99, 108, 97, 115, 115, 93])] (fxSel4) := pureF_evk mix T_ok T_in (n := 1000000) (by kernel_rfl) (by kernel_rfl) (by kernel_rfl)
theorem fx_sel5 : PureF Tryz.prog 33 [(.str [99, 58, 104, 111, 118, 101, 114])] (fxSel5) := pureF_evk mix T_ok T_in (n := 1000000) (by kernel_rfl) (by kernel_rfl) (by kernel_rfl)
theorem fx_sel6 : PureF Tryz.prog 33 [(.str [98, 58, 110, 111, 116, 40, 46, 97, 41])] (fxSel6) := pureF_evk mix T_ok T_in (n := 1000000) (by kernel_rfl) (by kernel_rfl) (by kernel_rfl)
theorem fx_sel7 : PureF Tryz.prog 33 [(.str [98, 58, 110, 111, 116, 40, 46, 120, 41])] (fxSel7) := pureF_evk mix T_ok T_in (n := 1000000) (by kernel_rfl) (by kernel_rfl) (by kernel_rfl)
theorem fx_sel8 : PureF Tryz.prog 33 [(.str [98, 32, 43, 32, 99])] (fxSel8) := pureF_evk mix T_ok T_in (n := 1000000) (by kernel_rfl) (by kernel_rfl) (by kernel_rfl)
theorem fx_sel9 : PureF Tryz.prog 33 [(.str [104, 116, 109, 108, 32, 62, 32, 99])] (fxSel9) := pureF_evk mix T_ok T_in (n := 1000000) (by kernel_rfl) (by kernel_rfl) (by kernel_rfl)
theorem fx_sel10 : PureF Tryz.prog 33 [(.str [91, 121, 61, 49, 93])] (fxSel10) := pureF_evk mix T_ok T_in (n := 1000000) (by kernel_rfl) (by kernel_rfl) (by kernel_rfl)
theorem fx_sel11 : PureF Tryz.prog 33 [(.str [99, 32, 98])] (fxSel11) := pureF_evk mix T_ok T_in (n := 1000000) (by kernel_rfl) (by kernel_rfl) (by kernel_rfl)
theorem fx_sel12 : PureF Tryz.prog 33 [(.str [98])] (fxSel12) := pureF_evk mix T_ok T_in (n := 1000000) (by kernel_rfl) (by kernel_rfl) (by kernel_rfl)
theorem fx_sel13 : PureF Tryz.prog 33 [(.str [42])] (fxSel13) := pureF_evk mix T_ok T_in (n := 1000000) (by kernel_rfl) (by kernel_rfl) (by kernel_rfl)
end W14
