/-
  NARROWER THAN 'FOR EVERY INPUT', by the rows' own cells (each row's printed sentence says how): MaybeTells: loops · MaybeSound: loops · MaybeExact: loops · MaybeMore: loops · MaybeTurns: loops · MaybeNot: loops.
  DERIVED. THE GIVEN ROWS OF THIS SEAT. 7 by the template 'for every input the law returns true; each argument reads behind the call as it read before'; 0 by the template 'total and deterministic' (their statements: YtdbcomcockkkbaaGreatTotals.lean).
  GIVEN WITH THE SEED: the statements are not yours to turn. If you find one false, say at which input.
  Laid BY PROGRAM, IN A SANDBOX (cutbox-rows.mjs): the forced cells as the released guide's own fill.sh prints them over the translation 21f74a0939c8f0c7… (all of the seat's roots in one cut). By AI agents, Wed Nov 11 2026. No macro, syntax, notation, axiom, sorry.
-/
import Derived.Test.YtdbcomcockkkbaaGreatChecked
import GoSem.Claim
import GoSem.ClaimJoined
import GoSem.ClaimMapViews
import Derived.JoinedTies
import Derived.KernelRfl
namespace Go.Proofs.YtdbcomcockkkbaaGreat
/- THE CELL 'sum', in the pinned program and in every row, IS THE sha256 OF THE DUMP (.gsa) THAT YtdbcomcockkkbaaGreatProg.lean LOADS. Nothing in Lean hashes anything: it is a label: what it is worth is what the hold of that sum in a sandbox is worth. -/
noncomputable def Tryz.pinned : Pinned := { name := "ytdbcomcockkkbaagreat", sum := "21f74a0939c8f0c7a4108b43e734e2a6080b94ed391be3b8942a434fee771dd9", checked := Tryz.checked }
namespace Rows
def none {H : Type} : Left H := { results := [], args := [] }

/-- 'winnowinglaw14.MaybeTells': WHATEVER THE INPUT: true; the input reads as it did. -/
def maybeTellsSpec : ChangeSpec := { name := "maybeTells", fn := fun _ => fun
  | [d1, d2, d3] => { results := [.lit (.bool true)], args := [d1, d2, d3] }
  | _ => none }
def maybeTellsRow : OpenClaim := { program := "ytdbcomcockkkbaagreat", sum := "21f74a0939c8f0c7a4108b43e734e2a6080b94ed391be3b8942a434fee771dd9", func := "winnowing/winnowinglaw14.MaybeTells", spec := "maybeTells", inPlace := ["internal/bytealg.IndexByteString", "internal/bytealg.IndexString"], unfollowed := true, recurses := true, named := ["internal/bytealg.MaxLen"], loops := true, plainKeys := false, apart := false }
def MaybeTellsSaid : Prop := maybeTellsRow.holds Tryz.pinned (OpenSpec.ofChange maybeTellsSpec)

/-- ITS FALSE NEIGHBOUR: 'it returns false'. Refute it at one input. -/
def maybeTellsWrong : ChangeSpec := { name := "maybeTells", fn := fun _ => fun
  | [d1, d2, d3] => { results := [.lit (.bool false)], args := [d1, d2, d3] }
  | _ => none }
def MaybeTellsWrongFalsely : Prop := maybeTellsRow.holds Tryz.pinned (OpenSpec.ofChange maybeTellsWrong)

/-- 'winnowinglaw14.MaybeSound': WHATEVER THE INPUT: true; the input reads as it did. -/
def maybeSoundSpec : ChangeSpec := { name := "maybeSound", fn := fun _ => fun
  | [d1, d2, d3] => { results := [.lit (.bool true)], args := [d1, d2, d3] }
  | _ => none }
def maybeSoundRow : OpenClaim := { program := "ytdbcomcockkkbaagreat", sum := "21f74a0939c8f0c7a4108b43e734e2a6080b94ed391be3b8942a434fee771dd9", func := "winnowing/winnowinglaw14.MaybeSound", spec := "maybeSound", inPlace := ["internal/bytealg.IndexByteString", "internal/bytealg.IndexString"], unfollowed := true, recurses := true, named := ["internal/bytealg.MaxLen"], loops := true, plainKeys := false, apart := false }
def MaybeSoundSaid : Prop := maybeSoundRow.holds Tryz.pinned (OpenSpec.ofChange maybeSoundSpec)

/-- ITS FALSE NEIGHBOUR: 'it returns false'. Refute it at one input. -/
def maybeSoundWrong : ChangeSpec := { name := "maybeSound", fn := fun _ => fun
  | [d1, d2, d3] => { results := [.lit (.bool false)], args := [d1, d2, d3] }
  | _ => none }
def MaybeSoundWrongFalsely : Prop := maybeSoundRow.holds Tryz.pinned (OpenSpec.ofChange maybeSoundWrong)

/-- 'winnowinglaw14.MaybeExact': WHATEVER THE INPUT: true; the input reads as it did. -/
def maybeExactSpec : ChangeSpec := { name := "maybeExact", fn := fun _ => fun
  | [d1, d2] => { results := [.lit (.bool true)], args := [d1, d2] }
  | _ => none }
def maybeExactRow : OpenClaim := { program := "ytdbcomcockkkbaagreat", sum := "21f74a0939c8f0c7a4108b43e734e2a6080b94ed391be3b8942a434fee771dd9", func := "winnowing/winnowinglaw14.MaybeExact", spec := "maybeExact", inPlace := ["internal/bytealg.IndexByteString", "internal/bytealg.IndexString"], unfollowed := true, recurses := true, named := ["internal/bytealg.MaxLen"], loops := true, plainKeys := false, apart := false }
def MaybeExactSaid : Prop := maybeExactRow.holds Tryz.pinned (OpenSpec.ofChange maybeExactSpec)

/-- ITS FALSE NEIGHBOUR: 'it returns false'. Refute it at one input. -/
def maybeExactWrong : ChangeSpec := { name := "maybeExact", fn := fun _ => fun
  | [d1, d2] => { results := [.lit (.bool false)], args := [d1, d2] }
  | _ => none }
def MaybeExactWrongFalsely : Prop := maybeExactRow.holds Tryz.pinned (OpenSpec.ofChange maybeExactWrong)

/-- 'winnowinglaw14.MaybeMore': WHATEVER THE INPUT: true; the input reads as it did. -/
def maybeMoreSpec : ChangeSpec := { name := "maybeMore", fn := fun _ => fun
  | [d1, d2, d3] => { results := [.lit (.bool true)], args := [d1, d2, d3] }
  | _ => none }
def maybeMoreRow : OpenClaim := { program := "ytdbcomcockkkbaagreat", sum := "21f74a0939c8f0c7a4108b43e734e2a6080b94ed391be3b8942a434fee771dd9", func := "winnowing/winnowinglaw14.MaybeMore", spec := "maybeMore", inPlace := ["internal/bytealg.IndexByteString", "internal/bytealg.IndexString"], unfollowed := true, recurses := true, named := ["internal/bytealg.MaxLen"], loops := true, plainKeys := false, apart := false }
def MaybeMoreSaid : Prop := maybeMoreRow.holds Tryz.pinned (OpenSpec.ofChange maybeMoreSpec)

/-- ITS FALSE NEIGHBOUR: 'it returns false'. Refute it at one input. -/
def maybeMoreWrong : ChangeSpec := { name := "maybeMore", fn := fun _ => fun
  | [d1, d2, d3] => { results := [.lit (.bool false)], args := [d1, d2, d3] }
  | _ => none }
def MaybeMoreWrongFalsely : Prop := maybeMoreRow.holds Tryz.pinned (OpenSpec.ofChange maybeMoreWrong)

/-- 'winnowinglaw14.MaybeKleene': WHATEVER THE INPUT: true; the input reads as it did. -/
def maybeKleeneSpec : ChangeSpec := { name := "maybeKleene", fn := fun _ => fun
  | [d1, d2] => { results := [.lit (.bool true)], args := [d1, d2] }
  | _ => none }
def maybeKleeneRow : OpenClaim := { program := "ytdbcomcockkkbaagreat", sum := "21f74a0939c8f0c7a4108b43e734e2a6080b94ed391be3b8942a434fee771dd9", func := "winnowing/winnowinglaw14.MaybeKleene", spec := "maybeKleene", inPlace := ["internal/bytealg.IndexByteString", "internal/bytealg.IndexString"], unfollowed := true, recurses := true, named := ["internal/bytealg.MaxLen"], plainKeys := false, apart := false }
def MaybeKleeneSaid : Prop := maybeKleeneRow.holds Tryz.pinned (OpenSpec.ofChange maybeKleeneSpec)

/-- ITS FALSE NEIGHBOUR: 'it returns false'. Refute it at one input. -/
def maybeKleeneWrong : ChangeSpec := { name := "maybeKleene", fn := fun _ => fun
  | [d1, d2] => { results := [.lit (.bool false)], args := [d1, d2] }
  | _ => none }
def MaybeKleeneWrongFalsely : Prop := maybeKleeneRow.holds Tryz.pinned (OpenSpec.ofChange maybeKleeneWrong)

/-- 'winnowinglaw14.MaybeTurns': WHATEVER THE INPUT: true; the input reads as it did. -/
def maybeTurnsSpec : ChangeSpec := { name := "maybeTurns", fn := fun _ => fun
  | [d1, d2, d3] => { results := [.lit (.bool true)], args := [d1, d2, d3] }
  | _ => none }
def maybeTurnsRow : OpenClaim := { program := "ytdbcomcockkkbaagreat", sum := "21f74a0939c8f0c7a4108b43e734e2a6080b94ed391be3b8942a434fee771dd9", func := "winnowing/winnowinglaw14.MaybeTurns", spec := "maybeTurns", inPlace := ["internal/bytealg.IndexByteString", "internal/bytealg.IndexString"], unfollowed := true, recurses := true, named := ["internal/bytealg.MaxLen"], loops := true, plainKeys := false, apart := false }
def MaybeTurnsSaid : Prop := maybeTurnsRow.holds Tryz.pinned (OpenSpec.ofChange maybeTurnsSpec)

/-- ITS FALSE NEIGHBOUR: 'it returns false'. Refute it at one input. -/
def maybeTurnsWrong : ChangeSpec := { name := "maybeTurns", fn := fun _ => fun
  | [d1, d2, d3] => { results := [.lit (.bool false)], args := [d1, d2, d3] }
  | _ => none }
def MaybeTurnsWrongFalsely : Prop := maybeTurnsRow.holds Tryz.pinned (OpenSpec.ofChange maybeTurnsWrong)

/-- 'winnowinglaw14.MaybeNot': WHATEVER THE INPUT: true; the input reads as it did. -/
def maybeNotSpec : ChangeSpec := { name := "maybeNot", fn := fun _ => fun
  | [d1, d2, d3] => { results := [.lit (.bool true)], args := [d1, d2, d3] }
  | _ => none }
def maybeNotRow : OpenClaim := { program := "ytdbcomcockkkbaagreat", sum := "21f74a0939c8f0c7a4108b43e734e2a6080b94ed391be3b8942a434fee771dd9", func := "winnowing/winnowinglaw14.MaybeNot", spec := "maybeNot", inPlace := ["internal/bytealg.IndexByteString", "internal/bytealg.IndexString"], unfollowed := true, recurses := true, named := ["internal/bytealg.MaxLen"], loops := true, plainKeys := false, apart := false }
def MaybeNotSaid : Prop := maybeNotRow.holds Tryz.pinned (OpenSpec.ofChange maybeNotSpec)

/-- ITS FALSE NEIGHBOUR: 'it returns false'. Refute it at one input. -/
def maybeNotWrong : ChangeSpec := { name := "maybeNot", fn := fun _ => fun
  | [d1, d2, d3] => { results := [.lit (.bool false)], args := [d1, d2, d3] }
  | _ => none }
def MaybeNotWrongFalsely : Prop := maybeNotRow.holds Tryz.pinned (OpenSpec.ofChange maybeNotWrong)

/- THE SECOND FORM. 'bulk': how many values and letters a reading holds, each counted each time it is reached (what is shared counts as often as it is met; a slice's spare places count too). A statement '..UptoSaid' is the law's where the arguments, and the package variables that the reading takes, are together of bulk at most 1048576: NARROWER than '..Said'. Prove '..Said' where nothing that the law and all that it calls make is longer than what came in: it says more and counts as full. Else prove '..UptoSaid'. A law counts once. -/
mutual
def uptoBulk {H : Type} : DataW H → Nat
  | .lit (.string bytes) => bytes.length + 1
  | .lit _ => 1
  | .nil => 1
  | .ptr d => uptoBulk d + 1
  | .slice elems spare => uptoBulkAll elems + uptoBulkAll spare + 1
  | .agg parts => uptoBulkAll parts + 1
  | .iface _ d => uptoBulk d + 1
  | .map entries => uptoBulkEntries entries + 1
  | .held _ => 1
def uptoBulkAll {H : Type} : List (DataW H) → Nat
  | [] => 0
  | d :: r => uptoBulk d + uptoBulkAll r
def uptoBulkEntries {H : Type} : List (Lit × DataW H) → Nat
  | [] => 0
  | x :: r => uptoBulkEntry x + uptoBulkEntries r
def uptoBulkEntry {H : Type} : Lit × DataW H → Nat
  | (.string bytes, d) => bytes.length + uptoBulk d + 1
  | (_, d) => uptoBulk d + 1
 end
def uptoSmall : (H : Type) → List (DataW H) → Bool := fun _ ds => decide (uptoBulkAll ds ≤ 1048576)
def OpenSpec.upto (s : _root_.Go.ChangeSpec) : _root_.Go.OpenSpec := { _root_.Go.OpenSpec.ofChange s with cond := some uptoSmall }

/-- 'winnowinglaw14.MaybeTells', WHERE WHAT IT READS IS OF BULK AT MOST 1048576: true; the input reads as it did. -/
def maybeTellsUptoRow : OpenClaim := { program := "ytdbcomcockkkbaagreat", sum := "21f74a0939c8f0c7a4108b43e734e2a6080b94ed391be3b8942a434fee771dd9", func := "winnowing/winnowinglaw14.MaybeTells", spec := "maybeTells", inPlace := ["internal/bytealg.IndexByteString", "internal/bytealg.IndexString"], unfollowed := true, recurses := true, named := ["internal/bytealg.MaxLen"], loops := true, plainKeys := false, apart := false, narrowed := true }
def MaybeTellsUptoSaid : Prop := maybeTellsUptoRow.holds Tryz.pinned (OpenSpec.upto maybeTellsSpec)

/-- 'winnowinglaw14.MaybeSound', WHERE WHAT IT READS IS OF BULK AT MOST 1048576: true; the input reads as it did. -/
def maybeSoundUptoRow : OpenClaim := { program := "ytdbcomcockkkbaagreat", sum := "21f74a0939c8f0c7a4108b43e734e2a6080b94ed391be3b8942a434fee771dd9", func := "winnowing/winnowinglaw14.MaybeSound", spec := "maybeSound", inPlace := ["internal/bytealg.IndexByteString", "internal/bytealg.IndexString"], unfollowed := true, recurses := true, named := ["internal/bytealg.MaxLen"], loops := true, plainKeys := false, apart := false, narrowed := true }
def MaybeSoundUptoSaid : Prop := maybeSoundUptoRow.holds Tryz.pinned (OpenSpec.upto maybeSoundSpec)

/-- 'winnowinglaw14.MaybeExact', WHERE WHAT IT READS IS OF BULK AT MOST 1048576: true; the input reads as it did. -/
def maybeExactUptoRow : OpenClaim := { program := "ytdbcomcockkkbaagreat", sum := "21f74a0939c8f0c7a4108b43e734e2a6080b94ed391be3b8942a434fee771dd9", func := "winnowing/winnowinglaw14.MaybeExact", spec := "maybeExact", inPlace := ["internal/bytealg.IndexByteString", "internal/bytealg.IndexString"], unfollowed := true, recurses := true, named := ["internal/bytealg.MaxLen"], loops := true, plainKeys := false, apart := false, narrowed := true }
def MaybeExactUptoSaid : Prop := maybeExactUptoRow.holds Tryz.pinned (OpenSpec.upto maybeExactSpec)

/-- 'winnowinglaw14.MaybeMore', WHERE WHAT IT READS IS OF BULK AT MOST 1048576: true; the input reads as it did. -/
def maybeMoreUptoRow : OpenClaim := { program := "ytdbcomcockkkbaagreat", sum := "21f74a0939c8f0c7a4108b43e734e2a6080b94ed391be3b8942a434fee771dd9", func := "winnowing/winnowinglaw14.MaybeMore", spec := "maybeMore", inPlace := ["internal/bytealg.IndexByteString", "internal/bytealg.IndexString"], unfollowed := true, recurses := true, named := ["internal/bytealg.MaxLen"], loops := true, plainKeys := false, apart := false, narrowed := true }
def MaybeMoreUptoSaid : Prop := maybeMoreUptoRow.holds Tryz.pinned (OpenSpec.upto maybeMoreSpec)

/-- 'winnowinglaw14.MaybeKleene', WHERE WHAT IT READS IS OF BULK AT MOST 1048576: true; the input reads as it did. -/
def maybeKleeneUptoRow : OpenClaim := { program := "ytdbcomcockkkbaagreat", sum := "21f74a0939c8f0c7a4108b43e734e2a6080b94ed391be3b8942a434fee771dd9", func := "winnowing/winnowinglaw14.MaybeKleene", spec := "maybeKleene", inPlace := ["internal/bytealg.IndexByteString", "internal/bytealg.IndexString"], unfollowed := true, recurses := true, named := ["internal/bytealg.MaxLen"], plainKeys := false, apart := false, narrowed := true }
def MaybeKleeneUptoSaid : Prop := maybeKleeneUptoRow.holds Tryz.pinned (OpenSpec.upto maybeKleeneSpec)

/-- 'winnowinglaw14.MaybeTurns', WHERE WHAT IT READS IS OF BULK AT MOST 1048576: true; the input reads as it did. -/
def maybeTurnsUptoRow : OpenClaim := { program := "ytdbcomcockkkbaagreat", sum := "21f74a0939c8f0c7a4108b43e734e2a6080b94ed391be3b8942a434fee771dd9", func := "winnowing/winnowinglaw14.MaybeTurns", spec := "maybeTurns", inPlace := ["internal/bytealg.IndexByteString", "internal/bytealg.IndexString"], unfollowed := true, recurses := true, named := ["internal/bytealg.MaxLen"], loops := true, plainKeys := false, apart := false, narrowed := true }
def MaybeTurnsUptoSaid : Prop := maybeTurnsUptoRow.holds Tryz.pinned (OpenSpec.upto maybeTurnsSpec)

/-- 'winnowinglaw14.MaybeNot', WHERE WHAT IT READS IS OF BULK AT MOST 1048576: true; the input reads as it did. -/
def maybeNotUptoRow : OpenClaim := { program := "ytdbcomcockkkbaagreat", sum := "21f74a0939c8f0c7a4108b43e734e2a6080b94ed391be3b8942a434fee771dd9", func := "winnowing/winnowinglaw14.MaybeNot", spec := "maybeNot", inPlace := ["internal/bytealg.IndexByteString", "internal/bytealg.IndexString"], unfollowed := true, recurses := true, named := ["internal/bytealg.MaxLen"], loops := true, plainKeys := false, apart := false, narrowed := true }
def MaybeNotUptoSaid : Prop := maybeNotUptoRow.holds Tryz.pinned (OpenSpec.upto maybeNotSpec)

end Rows
end Go.Proofs.YtdbcomcockkkbaaGreat
