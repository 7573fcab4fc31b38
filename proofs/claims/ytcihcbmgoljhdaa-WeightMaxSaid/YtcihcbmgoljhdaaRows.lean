/-
  NARROWER THAN 'FOR EVERY INPUT', by the rows' own cells (each row's printed sentence says how): WeightTells: loops · WeightAdds: loops · WeightMore: loops.
  DERIVED. THE GIVEN ROWS OF THIS SEAT. 6 by the template 'for every input the law returns true; each argument reads behind the call as it read before'; 0 by the template 'total and deterministic' (their statements: YtcihcbmgoljhdaaTotals.lean).
  GIVEN WITH THE SEED: the statements are not yours to turn. If you find one false, say at which input.
  Laid BY PROGRAM, IN A SANDBOX (cutbox-rows.mjs): the forced cells as the released guide's own fill.sh prints them over the translation c4f0c1c6e83bc5cb… (all of the seat's roots in one cut). By AI agents, Wed Nov 11 2026. No macro, syntax, notation, axiom, sorry.
-/
import Derived.Test.YtcihcbmgoljhdaaChecked
import GoSem.Claim
import GoSem.ClaimJoined
import GoSem.ClaimMapViews
import Derived.JoinedTies
import Derived.KernelRfl
namespace Go.Proofs.Ytcihcbmgoljhdaa
/- THE CELL 'sum', in the pinned program and in every row, IS THE sha256 OF THE DUMP (.gsa) THAT YtcihcbmgoljhdaaProg.lean LOADS. Nothing in Lean hashes anything: it is a label: what it is worth is what the hold of that sum in a sandbox is worth. -/
noncomputable def Try.pinned : Pinned := { name := "ytcihcbmgoljhdaa", sum := "c4f0c1c6e83bc5cb0edd6fde2a6c049732c476caeef73c0d4417cae51a81f6b0", checked := Try.checked }
namespace Rows
def none {H : Type} : Left H := { results := [], args := [] }

/-- 'winnowinglaw06.WeightTells': WHATEVER THE INPUT: true; the input reads as it did. -/
def weightTellsSpec : ChangeSpec := { name := "weightTells", fn := fun _ => fun
  | [d1, d2, d3] => { results := [.lit (.bool true)], args := [d1, d2, d3] }
  | _ => none }
def weightTellsRow : OpenClaim := { program := "ytcihcbmgoljhdaa", sum := "c4f0c1c6e83bc5cb0edd6fde2a6c049732c476caeef73c0d4417cae51a81f6b0", func := "winnowing/winnowinglaw06.WeightTells", spec := "weightTells", recurses := true, loops := true, apart := false }
def WeightTellsSaid : Prop := weightTellsRow.holds Try.pinned (OpenSpec.ofChange weightTellsSpec)

/-- ITS FALSE NEIGHBOUR: 'it returns false'. Refute it at one input. -/
def weightTellsWrong : ChangeSpec := { name := "weightTells", fn := fun _ => fun
  | [d1, d2, d3] => { results := [.lit (.bool false)], args := [d1, d2, d3] }
  | _ => none }
def WeightTellsWrongFalsely : Prop := weightTellsRow.holds Try.pinned (OpenSpec.ofChange weightTellsWrong)

/-- 'winnowinglaw06.WeightOrder': WHATEVER THE INPUT: true; the input reads as it did. -/
def weightOrderSpec : ChangeSpec := { name := "weightOrder", fn := fun _ => fun
  | [d1, d2, d3] => { results := [.lit (.bool true)], args := [d1, d2, d3] }
  | _ => none }
def weightOrderRow : OpenClaim := { program := "ytcihcbmgoljhdaa", sum := "c4f0c1c6e83bc5cb0edd6fde2a6c049732c476caeef73c0d4417cae51a81f6b0", func := "winnowing/winnowinglaw06.WeightOrder", spec := "weightOrder", recurses := true, apart := false }
def WeightOrderSaid : Prop := weightOrderRow.holds Try.pinned (OpenSpec.ofChange weightOrderSpec)

/-- ITS FALSE NEIGHBOUR: 'it returns false'. Refute it at one input. -/
def weightOrderWrong : ChangeSpec := { name := "weightOrder", fn := fun _ => fun
  | [d1, d2, d3] => { results := [.lit (.bool false)], args := [d1, d2, d3] }
  | _ => none }
def WeightOrderWrongFalsely : Prop := weightOrderRow.holds Try.pinned (OpenSpec.ofChange weightOrderWrong)

/-- 'winnowinglaw06.WeightAdds': WHATEVER THE INPUT: true; the input reads as it did. -/
def weightAddsSpec : ChangeSpec := { name := "weightAdds", fn := fun _ => fun
  | [d1, d2] => { results := [.lit (.bool true)], args := [d1, d2] }
  | _ => none }
def weightAddsRow : OpenClaim := { program := "ytcihcbmgoljhdaa", sum := "c4f0c1c6e83bc5cb0edd6fde2a6c049732c476caeef73c0d4417cae51a81f6b0", func := "winnowing/winnowinglaw06.WeightAdds", spec := "weightAdds", recurses := true, loops := true, apart := false }
def WeightAddsSaid : Prop := weightAddsRow.holds Try.pinned (OpenSpec.ofChange weightAddsSpec)

/-- ITS FALSE NEIGHBOUR: 'it returns false'. Refute it at one input. -/
def weightAddsWrong : ChangeSpec := { name := "weightAdds", fn := fun _ => fun
  | [d1, d2] => { results := [.lit (.bool false)], args := [d1, d2] }
  | _ => none }
def WeightAddsWrongFalsely : Prop := weightAddsRow.holds Try.pinned (OpenSpec.ofChange weightAddsWrong)

/-- 'winnowinglaw06.WeightNth': WHATEVER THE INPUT: true; the input reads as it did. -/
def weightNthSpec : ChangeSpec := { name := "weightNth", fn := fun _ => fun
  | [d1, d2, d3] => { results := [.lit (.bool true)], args := [d1, d2, d3] }
  | _ => none }
def weightNthRow : OpenClaim := { program := "ytcihcbmgoljhdaa", sum := "c4f0c1c6e83bc5cb0edd6fde2a6c049732c476caeef73c0d4417cae51a81f6b0", func := "winnowing/winnowinglaw06.WeightNth", spec := "weightNth", recurses := true, apart := false }
def WeightNthSaid : Prop := weightNthRow.holds Try.pinned (OpenSpec.ofChange weightNthSpec)

/-- ITS FALSE NEIGHBOUR: 'it returns false'. Refute it at one input. -/
def weightNthWrong : ChangeSpec := { name := "weightNth", fn := fun _ => fun
  | [d1, d2, d3] => { results := [.lit (.bool false)], args := [d1, d2, d3] }
  | _ => none }
def WeightNthWrongFalsely : Prop := weightNthRow.holds Try.pinned (OpenSpec.ofChange weightNthWrong)

/-- 'winnowinglaw06.WeightMore': WHATEVER THE INPUT: true; the input reads as it did. -/
def weightMoreSpec : ChangeSpec := { name := "weightMore", fn := fun _ => fun
  | [d1, d2] => { results := [.lit (.bool true)], args := [d1, d2] }
  | _ => none }
def weightMoreRow : OpenClaim := { program := "ytcihcbmgoljhdaa", sum := "c4f0c1c6e83bc5cb0edd6fde2a6c049732c476caeef73c0d4417cae51a81f6b0", func := "winnowing/winnowinglaw06.WeightMore", spec := "weightMore", recurses := true, loops := true, apart := false }
def WeightMoreSaid : Prop := weightMoreRow.holds Try.pinned (OpenSpec.ofChange weightMoreSpec)

/-- ITS FALSE NEIGHBOUR: 'it returns false'. Refute it at one input. -/
def weightMoreWrong : ChangeSpec := { name := "weightMore", fn := fun _ => fun
  | [d1, d2] => { results := [.lit (.bool false)], args := [d1, d2] }
  | _ => none }
def WeightMoreWrongFalsely : Prop := weightMoreRow.holds Try.pinned (OpenSpec.ofChange weightMoreWrong)

/-- 'winnowinglaw06.WeightMax': WHATEVER THE INPUT: true; the input reads as it did. -/
def weightMaxSpec : ChangeSpec := { name := "weightMax", fn := fun _ => fun
  | [d1, d2] => { results := [.lit (.bool true)], args := [d1, d2] }
  | _ => none }
def weightMaxRow : OpenClaim := { program := "ytcihcbmgoljhdaa", sum := "c4f0c1c6e83bc5cb0edd6fde2a6c049732c476caeef73c0d4417cae51a81f6b0", func := "winnowing/winnowinglaw06.WeightMax", spec := "weightMax", recurses := true, apart := false }
def WeightMaxSaid : Prop := weightMaxRow.holds Try.pinned (OpenSpec.ofChange weightMaxSpec)

/-- ITS FALSE NEIGHBOUR: 'it returns false'. Refute it at one input. -/
def weightMaxWrong : ChangeSpec := { name := "weightMax", fn := fun _ => fun
  | [d1, d2] => { results := [.lit (.bool false)], args := [d1, d2] }
  | _ => none }
def WeightMaxWrongFalsely : Prop := weightMaxRow.holds Try.pinned (OpenSpec.ofChange weightMaxWrong)

/- THE SECOND FORM. 'bulk': how many values and letters a reading holds, each counted each time it is reached (what is shared counts as often as it is met; a slice's spare places count too). A statement '..UptoSaid' is the law's where the arguments, and the package variables that the reading takes, are together of bulk at most 1048576: NARROWER than '..Said'. Prove '..Said' where nothing that the law and all that it calls make is longer than what came in: it says more and counts as full. Else prove '..UptoSaid'. A law counts once. -/
mutual
def uptoBulk {H : Type} : DataW H → Nat
  | .lit (.string bytes) => bytes.length + 1
  | .lit _ => 1
  | .nil => 1
  | .ptr d => uptoBulk d + 1
  | .slice elems spare => uptoBulkAll elems + uptoBulkAll spare + 1
  | .agg parts => uptoBulkAll parts + 1
  | .iface _ d => uptoBulk d + 1
  | .map entries => uptoBulkEntries entries + 1
  | .held _ => 1
def uptoBulkAll {H : Type} : List (DataW H) → Nat
  | [] => 0
  | d :: r => uptoBulk d + uptoBulkAll r
def uptoBulkEntries {H : Type} : List (Lit × DataW H) → Nat
  | [] => 0
  | x :: r => uptoBulkEntry x + uptoBulkEntries r
def uptoBulkEntry {H : Type} : Lit × DataW H → Nat
  | (.string bytes, d) => bytes.length + uptoBulk d + 1
  | (_, d) => uptoBulk d + 1
 end
def uptoSmall : (H : Type) → List (DataW H) → Bool := fun _ ds => decide (uptoBulkAll ds ≤ 1048576)
def OpenSpec.upto (s : _root_.Go.ChangeSpec) : _root_.Go.OpenSpec := { _root_.Go.OpenSpec.ofChange s with cond := some uptoSmall }

/-- 'winnowinglaw06.WeightTells', WHERE WHAT IT READS IS OF BULK AT MOST 1048576: true; the input reads as it did. -/
def weightTellsUptoRow : OpenClaim := { program := "ytcihcbmgoljhdaa", sum := "c4f0c1c6e83bc5cb0edd6fde2a6c049732c476caeef73c0d4417cae51a81f6b0", func := "winnowing/winnowinglaw06.WeightTells", spec := "weightTells", recurses := true, loops := true, apart := false, narrowed := true }
def WeightTellsUptoSaid : Prop := weightTellsUptoRow.holds Try.pinned (OpenSpec.upto weightTellsSpec)

/-- 'winnowinglaw06.WeightOrder', WHERE WHAT IT READS IS OF BULK AT MOST 1048576: true; the input reads as it did. -/
def weightOrderUptoRow : OpenClaim := { program := "ytcihcbmgoljhdaa", sum := "c4f0c1c6e83bc5cb0edd6fde2a6c049732c476caeef73c0d4417cae51a81f6b0", func := "winnowing/winnowinglaw06.WeightOrder", spec := "weightOrder", recurses := true, apart := false, narrowed := true }
def WeightOrderUptoSaid : Prop := weightOrderUptoRow.holds Try.pinned (OpenSpec.upto weightOrderSpec)

/-- 'winnowinglaw06.WeightAdds', WHERE WHAT IT READS IS OF BULK AT MOST 1048576: true; the input reads as it did. -/
def weightAddsUptoRow : OpenClaim := { program := "ytcihcbmgoljhdaa", sum := "c4f0c1c6e83bc5cb0edd6fde2a6c049732c476caeef73c0d4417cae51a81f6b0", func := "winnowing/winnowinglaw06.WeightAdds", spec := "weightAdds", recurses := true, loops := true, apart := false, narrowed := true }
def WeightAddsUptoSaid : Prop := weightAddsUptoRow.holds Try.pinned (OpenSpec.upto weightAddsSpec)

/-- 'winnowinglaw06.WeightNth', WHERE WHAT IT READS IS OF BULK AT MOST 1048576: true; the input reads as it did. -/
def weightNthUptoRow : OpenClaim := { program := "ytcihcbmgoljhdaa", sum := "c4f0c1c6e83bc5cb0edd6fde2a6c049732c476caeef73c0d4417cae51a81f6b0", func := "winnowing/winnowinglaw06.WeightNth", spec := "weightNth", recurses := true, apart := false, narrowed := true }
def WeightNthUptoSaid : Prop := weightNthUptoRow.holds Try.pinned (OpenSpec.upto weightNthSpec)

/-- 'winnowinglaw06.WeightMore', WHERE WHAT IT READS IS OF BULK AT MOST 1048576: true; the input reads as it did. -/
def weightMoreUptoRow : OpenClaim := { program := "ytcihcbmgoljhdaa", sum := "c4f0c1c6e83bc5cb0edd6fde2a6c049732c476caeef73c0d4417cae51a81f6b0", func := "winnowing/winnowinglaw06.WeightMore", spec := "weightMore", recurses := true, loops := true, apart := false, narrowed := true }
def WeightMoreUptoSaid : Prop := weightMoreUptoRow.holds Try.pinned (OpenSpec.upto weightMoreSpec)

/-- 'winnowinglaw06.WeightMax', WHERE WHAT IT READS IS OF BULK AT MOST 1048576: true; the input reads as it did. -/
def weightMaxUptoRow : OpenClaim := { program := "ytcihcbmgoljhdaa", sum := "c4f0c1c6e83bc5cb0edd6fde2a6c049732c476caeef73c0d4417cae51a81f6b0", func := "winnowing/winnowinglaw06.WeightMax", spec := "weightMax", recurses := true, apart := false, narrowed := true }
def WeightMaxUptoSaid : Prop := weightMaxUptoRow.holds Try.pinned (OpenSpec.upto weightMaxSpec)

end Rows
end Go.Proofs.Ytcihcbmgoljhdaa
