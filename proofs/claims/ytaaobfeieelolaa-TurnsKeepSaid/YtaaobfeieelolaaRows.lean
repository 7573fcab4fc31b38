/-
  No cell of these rows narrows 'for every input' (looked for: loops, veiled, ifaces, maps, wideKeys, modest, calm, conditions, laid).
  DERIVED. THE GIVEN ROWS OF THIS SEAT. 5 by the template 'for every input the law returns true; each argument reads behind the call as it read before'; 0 by the template 'total and deterministic' (their statements: YtaaobfeieelolaaTotals.lean).
  GIVEN WITH THE SEED: the statements are not yours to turn. If you find one false, say at which input.
  Laid BY PROGRAM, IN A SANDBOX (cutbox-rows.mjs): the forced cells as the released guide's own fill.sh prints them over the translation b36ed82ceda8993f… (all of the seat's roots in one cut). By AI agents, Wed Nov 11 2026. No macro, syntax, notation, axiom, sorry.
-/
import Derived.Test.YtaaobfeieelolaaChecked
import GoSem.Claim
import GoSem.ClaimJoined
import GoSem.ClaimMapViews
import Derived.JoinedTies
import Derived.KernelRfl
namespace Go.Proofs.Ytaaobfeieelolaa
/- THE CELL 'sum', in the pinned program and in every row, IS THE sha256 OF THE DUMP (.gsa) THAT YtaaobfeieelolaaProg.lean LOADS. Nothing in Lean hashes anything: it is a label: what it is worth is what the hold of that sum in a sandbox is worth. -/
noncomputable def Try.pinned : Pinned := { name := "ytaaobfeieelolaa", sum := "b36ed82ceda8993f5533f8aae00fba4c59158c729ca064090ac28b9d15dc2cad", checked := Try.checked }
namespace Rows
def none {H : Type} : Left H := { results := [], args := [] }

/-- 'winnowinglaw11.TurnsTell': WHATEVER THE INPUT: true; the input reads as it did. -/
def turnsTellSpec : ChangeSpec := { name := "turnsTell", fn := fun _ => fun
  | [d1, d2, d3] => { results := [.lit (.bool true)], args := [d1, d2, d3] }
  | _ => none }
def turnsTellRow : OpenClaim := { program := "ytaaobfeieelolaa", sum := "b36ed82ceda8993f5533f8aae00fba4c59158c729ca064090ac28b9d15dc2cad", func := "winnowing/winnowinglaw11.TurnsTell", spec := "turnsTell", inPlace := ["internal/bytealg.IndexByteString", "internal/bytealg.IndexString", "internal/abi.NoEscape", "internal/bytealg.MakeNoZero"], unfollowed := true, recurses := true, named := ["internal/bytealg.MaxLen"], apart := false }
def TurnsTellSaid : Prop := turnsTellRow.holds Try.pinned (OpenSpec.ofChange turnsTellSpec)

/-- ITS FALSE NEIGHBOUR: 'it returns false'. Refute it at one input. -/
def turnsTellWrong : ChangeSpec := { name := "turnsTell", fn := fun _ => fun
  | [d1, d2, d3] => { results := [.lit (.bool false)], args := [d1, d2, d3] }
  | _ => none }
def TurnsTellWrongFalsely : Prop := turnsTellRow.holds Try.pinned (OpenSpec.ofChange turnsTellWrong)

/-- 'winnowinglaw11.TurnsKeep': WHATEVER THE INPUT: true; the input reads as it did. -/
def turnsKeepSpec : ChangeSpec := { name := "turnsKeep", fn := fun _ => fun
  | [d1, d2, d3] => { results := [.lit (.bool true)], args := [d1, d2, d3] }
  | _ => none }
def turnsKeepRow : OpenClaim := { program := "ytaaobfeieelolaa", sum := "b36ed82ceda8993f5533f8aae00fba4c59158c729ca064090ac28b9d15dc2cad", func := "winnowing/winnowinglaw11.TurnsKeep", spec := "turnsKeep", inPlace := ["internal/bytealg.IndexByteString", "internal/bytealg.IndexString", "internal/abi.NoEscape", "internal/bytealg.MakeNoZero"], unfollowed := true, recurses := true, named := ["internal/bytealg.MaxLen"], apart := false }
def TurnsKeepSaid : Prop := turnsKeepRow.holds Try.pinned (OpenSpec.ofChange turnsKeepSpec)

/-- ITS FALSE NEIGHBOUR: 'it returns false'. Refute it at one input. -/
def turnsKeepWrong : ChangeSpec := { name := "turnsKeep", fn := fun _ => fun
  | [d1, d2, d3] => { results := [.lit (.bool false)], args := [d1, d2, d3] }
  | _ => none }
def TurnsKeepWrongFalsely : Prop := turnsKeepRow.holds Try.pinned (OpenSpec.ofChange turnsKeepWrong)

/-- 'winnowinglaw11.TurnsApart': WHATEVER THE INPUT: true; the input reads as it did. -/
def turnsApartSpec : ChangeSpec := { name := "turnsApart", fn := fun _ => fun
  | [d1, d2, d3] => { results := [.lit (.bool true)], args := [d1, d2, d3] }
  | _ => none }
def turnsApartRow : OpenClaim := { program := "ytaaobfeieelolaa", sum := "b36ed82ceda8993f5533f8aae00fba4c59158c729ca064090ac28b9d15dc2cad", func := "winnowing/winnowinglaw11.TurnsApart", spec := "turnsApart", inPlace := ["internal/bytealg.IndexByteString", "internal/bytealg.IndexString", "internal/abi.NoEscape", "internal/bytealg.MakeNoZero"], unfollowed := true, recurses := true, named := ["internal/bytealg.MaxLen"], apart := false }
def TurnsApartSaid : Prop := turnsApartRow.holds Try.pinned (OpenSpec.ofChange turnsApartSpec)

/-- ITS FALSE NEIGHBOUR: 'it returns false'. Refute it at one input. -/
def turnsApartWrong : ChangeSpec := { name := "turnsApart", fn := fun _ => fun
  | [d1, d2, d3] => { results := [.lit (.bool false)], args := [d1, d2, d3] }
  | _ => none }
def TurnsApartWrongFalsely : Prop := turnsApartRow.holds Try.pinned (OpenSpec.ofChange turnsApartWrong)

/-- 'winnowinglaw11.TurnsBack': WHATEVER THE INPUT: true; the input reads as it did. -/
def turnsBackSpec : ChangeSpec := { name := "turnsBack", fn := fun _ => fun
  | [d1, d2, d3] => { results := [.lit (.bool true)], args := [d1, d2, d3] }
  | _ => none }
def turnsBackRow : OpenClaim := { program := "ytaaobfeieelolaa", sum := "b36ed82ceda8993f5533f8aae00fba4c59158c729ca064090ac28b9d15dc2cad", func := "winnowing/winnowinglaw11.TurnsBack", spec := "turnsBack", inPlace := ["internal/bytealg.IndexByteString", "internal/bytealg.IndexString", "internal/abi.NoEscape", "internal/bytealg.MakeNoZero"], unfollowed := true, recurses := true, named := ["internal/bytealg.MaxLen"], apart := false }
def TurnsBackSaid : Prop := turnsBackRow.holds Try.pinned (OpenSpec.ofChange turnsBackSpec)

/-- ITS FALSE NEIGHBOUR: 'it returns false'. Refute it at one input. -/
def turnsBackWrong : ChangeSpec := { name := "turnsBack", fn := fun _ => fun
  | [d1, d2, d3] => { results := [.lit (.bool false)], args := [d1, d2, d3] }
  | _ => none }
def TurnsBackWrongFalsely : Prop := turnsBackRow.holds Try.pinned (OpenSpec.ofChange turnsBackWrong)

/-- 'winnowinglaw11.TurnsEach': WHATEVER THE INPUT: true; the input reads as it did. -/
def turnsEachSpec : ChangeSpec := { name := "turnsEach", fn := fun _ => fun
  | [d1, d2, d3] => { results := [.lit (.bool true)], args := [d1, d2, d3] }
  | _ => none }
def turnsEachRow : OpenClaim := { program := "ytaaobfeieelolaa", sum := "b36ed82ceda8993f5533f8aae00fba4c59158c729ca064090ac28b9d15dc2cad", func := "winnowing/winnowinglaw11.TurnsEach", spec := "turnsEach", inPlace := ["internal/bytealg.IndexByteString", "internal/bytealg.IndexString", "internal/abi.NoEscape", "internal/bytealg.MakeNoZero"], unfollowed := true, recurses := true, named := ["internal/bytealg.MaxLen"], apart := false }
def TurnsEachSaid : Prop := turnsEachRow.holds Try.pinned (OpenSpec.ofChange turnsEachSpec)

/-- ITS FALSE NEIGHBOUR: 'it returns false'. Refute it at one input. -/
def turnsEachWrong : ChangeSpec := { name := "turnsEach", fn := fun _ => fun
  | [d1, d2, d3] => { results := [.lit (.bool false)], args := [d1, d2, d3] }
  | _ => none }
def TurnsEachWrongFalsely : Prop := turnsEachRow.holds Try.pinned (OpenSpec.ofChange turnsEachWrong)

/- THE SECOND FORM. 'bulk': how many values and letters a reading holds, each counted each time it is reached (what is shared counts as often as it is met; a slice's spare places count too). A statement '..UptoSaid' is the law's where the arguments, and the package variables that the reading takes, are together of bulk at most 1048576: NARROWER than '..Said'. Prove '..Said' where nothing that the law and all that it calls make is longer than what came in: it says more and counts as full. Else prove '..UptoSaid'. A law counts once. -/
mutual
def uptoBulk {H : Type} : DataW H → Nat
  | .lit (.string bytes) => bytes.length + 1
  | .lit _ => 1
  | .nil => 1
  | .ptr d => uptoBulk d + 1
  | .slice elems spare => uptoBulkAll elems + uptoBulkAll spare + 1
  | .agg parts => uptoBulkAll parts + 1
  | .iface _ d => uptoBulk d + 1
  | .map entries => uptoBulkEntries entries + 1
  | .held _ => 1
def uptoBulkAll {H : Type} : List (DataW H) → Nat
  | [] => 0
  | d :: r => uptoBulk d + uptoBulkAll r
def uptoBulkEntries {H : Type} : List (Lit × DataW H) → Nat
  | [] => 0
  | x :: r => uptoBulkEntry x + uptoBulkEntries r
def uptoBulkEntry {H : Type} : Lit × DataW H → Nat
  | (.string bytes, d) => bytes.length + uptoBulk d + 1
  | (_, d) => uptoBulk d + 1
 end
def uptoSmall : (H : Type) → List (DataW H) → Bool := fun _ ds => decide (uptoBulkAll ds ≤ 1048576)
def OpenSpec.upto (s : _root_.Go.ChangeSpec) : _root_.Go.OpenSpec := { _root_.Go.OpenSpec.ofChange s with cond := some uptoSmall }

/-- 'winnowinglaw11.TurnsTell', WHERE WHAT IT READS IS OF BULK AT MOST 1048576: true; the input reads as it did. -/
def turnsTellUptoRow : OpenClaim := { program := "ytaaobfeieelolaa", sum := "b36ed82ceda8993f5533f8aae00fba4c59158c729ca064090ac28b9d15dc2cad", func := "winnowing/winnowinglaw11.TurnsTell", spec := "turnsTell", inPlace := ["internal/bytealg.IndexByteString", "internal/bytealg.IndexString", "internal/abi.NoEscape", "internal/bytealg.MakeNoZero"], unfollowed := true, recurses := true, named := ["internal/bytealg.MaxLen"], apart := false, narrowed := true }
def TurnsTellUptoSaid : Prop := turnsTellUptoRow.holds Try.pinned (OpenSpec.upto turnsTellSpec)

/-- 'winnowinglaw11.TurnsKeep', WHERE WHAT IT READS IS OF BULK AT MOST 1048576: true; the input reads as it did. -/
def turnsKeepUptoRow : OpenClaim := { program := "ytaaobfeieelolaa", sum := "b36ed82ceda8993f5533f8aae00fba4c59158c729ca064090ac28b9d15dc2cad", func := "winnowing/winnowinglaw11.TurnsKeep", spec := "turnsKeep", inPlace := ["internal/bytealg.IndexByteString", "internal/bytealg.IndexString", "internal/abi.NoEscape", "internal/bytealg.MakeNoZero"], unfollowed := true, recurses := true, named := ["internal/bytealg.MaxLen"], apart := false, narrowed := true }
def TurnsKeepUptoSaid : Prop := turnsKeepUptoRow.holds Try.pinned (OpenSpec.upto turnsKeepSpec)

/-- 'winnowinglaw11.TurnsApart', WHERE WHAT IT READS IS OF BULK AT MOST 1048576: true; the input reads as it did. -/
def turnsApartUptoRow : OpenClaim := { program := "ytaaobfeieelolaa", sum := "b36ed82ceda8993f5533f8aae00fba4c59158c729ca064090ac28b9d15dc2cad", func := "winnowing/winnowinglaw11.TurnsApart", spec := "turnsApart", inPlace := ["internal/bytealg.IndexByteString", "internal/bytealg.IndexString", "internal/abi.NoEscape", "internal/bytealg.MakeNoZero"], unfollowed := true, recurses := true, named := ["internal/bytealg.MaxLen"], apart := false, narrowed := true }
def TurnsApartUptoSaid : Prop := turnsApartUptoRow.holds Try.pinned (OpenSpec.upto turnsApartSpec)

/-- 'winnowinglaw11.TurnsBack', WHERE WHAT IT READS IS OF BULK AT MOST 1048576: true; the input reads as it did. -/
def turnsBackUptoRow : OpenClaim := { program := "ytaaobfeieelolaa", sum := "b36ed82ceda8993f5533f8aae00fba4c59158c729ca064090ac28b9d15dc2cad", func := "winnowing/winnowinglaw11.TurnsBack", spec := "turnsBack", inPlace := ["internal/bytealg.IndexByteString", "internal/bytealg.IndexString", "internal/abi.NoEscape", "internal/bytealg.MakeNoZero"], unfollowed := true, recurses := true, named := ["internal/bytealg.MaxLen"], apart := false, narrowed := true }
def TurnsBackUptoSaid : Prop := turnsBackUptoRow.holds Try.pinned (OpenSpec.upto turnsBackSpec)

/-- 'winnowinglaw11.TurnsEach', WHERE WHAT IT READS IS OF BULK AT MOST 1048576: true; the input reads as it did. -/
def turnsEachUptoRow : OpenClaim := { program := "ytaaobfeieelolaa", sum := "b36ed82ceda8993f5533f8aae00fba4c59158c729ca064090ac28b9d15dc2cad", func := "winnowing/winnowinglaw11.TurnsEach", spec := "turnsEach", inPlace := ["internal/bytealg.IndexByteString", "internal/bytealg.IndexString", "internal/abi.NoEscape", "internal/bytealg.MakeNoZero"], unfollowed := true, recurses := true, named := ["internal/bytealg.MaxLen"], apart := false, narrowed := true }
def TurnsEachUptoSaid : Prop := turnsEachUptoRow.holds Try.pinned (OpenSpec.upto turnsEachSpec)

end Rows
end Go.Proofs.Ytaaobfeieelolaa
