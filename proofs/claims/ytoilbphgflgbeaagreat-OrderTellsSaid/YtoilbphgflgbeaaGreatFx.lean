/- The table: what is asked of it. -/
import Derived.Test.YtoilbphgflgbeaaGreatAxE
import Derived.Test.YtoilbphgflgbeaaGreatTabB
set_option linter.unusedSimpArgs false
set_option linter.unusedVariables false
namespace W15
open Go Go.AX Go.Proofs
theorem mix:Tryz.prog.follows .mixedOrders=true:=by kernel_rfl
theorem J5:Vi 8 T:=by
  have h:(Uj.all fun o=>match o with | some tf=>Mx 8 tf.af | none=>true)=true:=by kernel_rfl
  intro f tf hf
  have hf':Uj.getD f none=some tf:=hf
  rw [List.getD_eq_getElem?_getD] at hf'
  have hm:some tf ∈ Uj:=by
    cases ho:Uj[f]? with
    | none=>rw [ho] at hf';simp at hf'
    | some o =>
      rw [ho] at hf'
      simp only [Option.getD_some] at hf'
      subst hf'
      exact List.mem_of_getElem? ho
  exact List.all_eq_true.1 h _ hm
end W15
