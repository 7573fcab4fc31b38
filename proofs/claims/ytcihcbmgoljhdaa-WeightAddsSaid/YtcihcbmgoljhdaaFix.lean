/- The fixed calls, by running them. -/
import Derived.Test.YtcihcbmgoljhdaaAxD
import Derived.Test.YtcihcbmgoljhdaaAxE
import Derived.Test.YtcihcbmgoljhdaaTab
namespace W06
open Go Go.AX Go.Proofs
def outV : OutK → Option AV
  | .val v _ => some v
  | _ => none
theorem fixed_runs : outV (evk 8 T 100000 (.call 10 []) .e ⟨[], 0⟩) = some (.bool true) := by kernel_rfl
theorem T_in : TIn 8 T := by
  have h : (tbl.all fun o => match o with | some tf => funIn 8 tf.af | none => true) = true := by kernel_rfl
  intro f tf hf
  have hf' : tbl.getD f none = some tf := hf
  rw [List.getD_eq_getElem?_getD] at hf'
  have hm : some tf ∈ tbl := by
    cases ho : tbl[f]? with
    | none => rw [ho] at hf'; simp at hf'
    | some o =>
      rw [ho] at hf'
      simp only [Option.getD_some] at hf'
      subst hf'
      exact List.mem_of_getElem? ho
  exact List.all_eq_true.1 h _ hm
theorem mixF : Try.prog.follows .mixedOrders = true := by kernel_rfl
theorem w10 : Pure Try.prog 10 [] (.bool true) := by
  have h := fixed_runs
  unfold outV at h
  split at h
  · rename_i v s' he
    simp only [Option.some.injEq] at h
    subst h
    exact (evk_call mixF T_ok T_in he).mono fun v s hh => hh.1
  · simp at h
end W06
