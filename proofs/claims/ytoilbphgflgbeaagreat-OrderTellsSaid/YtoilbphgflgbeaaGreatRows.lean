/-
  NARROWER THAN 'FOR EVERY INPUT', by the rows' own cells (each row's printed sentence says how): OrderTells: loops · OrderWins: loops · OrderTotal: loops · OrderSheets: loops · OrderTwice: loops · OrderWidth: loops.
  DERIVED. THE GIVEN ROWS OF THIS SEAT. 6 by the template 'for every input the law returns true; each argument reads behind the call as it read before'; 0 by the template 'total and deterministic' (their statements: YtoilbphgflgbeaaGreatTotals.lean).
  GIVEN WITH THE SEED: the statements are not yours to turn. If you find one false, say at which input.
  Laid BY PROGRAM, IN A SANDBOX (cutbox-rows.mjs): the forced cells as the released guide's own fill.sh prints them over the translation 3fc029b6a5356ef5… (all of the seat's roots in one cut). By AI agents, Wed Nov 11 2026. No macro, syntax, notation, axiom, sorry.
-/
import Derived.Test.YtoilbphgflgbeaaGreatChecked
import GoSem.Claim
import GoSem.ClaimJoined
import GoSem.ClaimMapViews
import Derived.JoinedTies
import Derived.KernelRfl
namespace Go.Proofs.YtoilbphgflgbeaaGreat
/- THE CELL 'sum', in the pinned program and in every row, IS THE sha256 OF THE DUMP (.gsa) THAT YtoilbphgflgbeaaGreatProg.lean LOADS. Nothing in Lean hashes anything: it is a label: what it is worth is what the hold of that sum in a sandbox is worth. -/
noncomputable def Tryz.pinned : Pinned := { name := "ytoilbphgflgbeaagreat", sum := "3fc029b6a5356ef50c55dfb0bed0e872df80faf09fee81ff4ac3fd9cea94c9f6", checked := Tryz.checked }
namespace Rows
def none {H : Type} : Left H := { results := [], args := [] }

/-- 'winnowinglaw15.OrderTells': WHATEVER THE INPUT: true; the input reads as it did. -/
def orderTellsSpec : ChangeSpec := { name := "orderTells", fn := fun _ => fun
  | [d1, d2, d3] => { results := [.lit (.bool true)], args := [d1, d2, d3] }
  | _ => none }
def orderTellsRow : OpenClaim := { program := "ytoilbphgflgbeaagreat", sum := "3fc029b6a5356ef50c55dfb0bed0e872df80faf09fee81ff4ac3fd9cea94c9f6", func := "winnowing/winnowinglaw15.OrderTells", spec := "orderTells", inPlace := ["internal/bytealg.IndexByteString", "internal/bytealg.IndexString"], unfollowed := true, recurses := true, named := ["internal/bytealg.MaxLen"], loops := true, plainKeys := false, apart := false }
def OrderTellsSaid : Prop := orderTellsRow.holds Tryz.pinned (OpenSpec.ofChange orderTellsSpec)

/-- ITS FALSE NEIGHBOUR: 'it returns false'. Refute it at one input. -/
def orderTellsWrong : ChangeSpec := { name := "orderTells", fn := fun _ => fun
  | [d1, d2, d3] => { results := [.lit (.bool false)], args := [d1, d2, d3] }
  | _ => none }
def OrderTellsWrongFalsely : Prop := orderTellsRow.holds Tryz.pinned (OpenSpec.ofChange orderTellsWrong)

/-- 'winnowinglaw15.OrderWins': WHATEVER THE INPUT: true; the input reads as it did. -/
def orderWinsSpec : ChangeSpec := { name := "orderWins", fn := fun _ => fun
  | [d1, d2] => { results := [.lit (.bool true)], args := [d1, d2] }
  | _ => none }
def orderWinsRow : OpenClaim := { program := "ytoilbphgflgbeaagreat", sum := "3fc029b6a5356ef50c55dfb0bed0e872df80faf09fee81ff4ac3fd9cea94c9f6", func := "winnowing/winnowinglaw15.OrderWins", spec := "orderWins", inPlace := ["internal/bytealg.IndexByteString", "internal/bytealg.IndexString"], unfollowed := true, recurses := true, named := ["internal/bytealg.MaxLen"], loops := true, plainKeys := false, apart := false }
def OrderWinsSaid : Prop := orderWinsRow.holds Tryz.pinned (OpenSpec.ofChange orderWinsSpec)

/-- ITS FALSE NEIGHBOUR: 'it returns false'. Refute it at one input. -/
def orderWinsWrong : ChangeSpec := { name := "orderWins", fn := fun _ => fun
  | [d1, d2] => { results := [.lit (.bool false)], args := [d1, d2] }
  | _ => none }
def OrderWinsWrongFalsely : Prop := orderWinsRow.holds Tryz.pinned (OpenSpec.ofChange orderWinsWrong)

/-- 'winnowinglaw15.OrderTotal': WHATEVER THE INPUT: true; the input reads as it did. -/
def orderTotalSpec : ChangeSpec := { name := "orderTotal", fn := fun _ => fun
  | [d1, d2, d3] => { results := [.lit (.bool true)], args := [d1, d2, d3] }
  | _ => none }
def orderTotalRow : OpenClaim := { program := "ytoilbphgflgbeaagreat", sum := "3fc029b6a5356ef50c55dfb0bed0e872df80faf09fee81ff4ac3fd9cea94c9f6", func := "winnowing/winnowinglaw15.OrderTotal", spec := "orderTotal", inPlace := ["internal/bytealg.IndexByteString", "internal/bytealg.IndexString"], unfollowed := true, recurses := true, named := ["internal/bytealg.MaxLen"], loops := true, plainKeys := false, apart := false }
def OrderTotalSaid : Prop := orderTotalRow.holds Tryz.pinned (OpenSpec.ofChange orderTotalSpec)

/-- ITS FALSE NEIGHBOUR: 'it returns false'. Refute it at one input. -/
def orderTotalWrong : ChangeSpec := { name := "orderTotal", fn := fun _ => fun
  | [d1, d2, d3] => { results := [.lit (.bool false)], args := [d1, d2, d3] }
  | _ => none }
def OrderTotalWrongFalsely : Prop := orderTotalRow.holds Tryz.pinned (OpenSpec.ofChange orderTotalWrong)

/-- 'winnowinglaw15.OrderSheets': WHATEVER THE INPUT: true; the input reads as it did. -/
def orderSheetsSpec : ChangeSpec := { name := "orderSheets", fn := fun _ => fun
  | [d1, d2, d3] => { results := [.lit (.bool true)], args := [d1, d2, d3] }
  | _ => none }
def orderSheetsRow : OpenClaim := { program := "ytoilbphgflgbeaagreat", sum := "3fc029b6a5356ef50c55dfb0bed0e872df80faf09fee81ff4ac3fd9cea94c9f6", func := "winnowing/winnowinglaw15.OrderSheets", spec := "orderSheets", inPlace := ["internal/bytealg.IndexByteString", "internal/bytealg.IndexString"], unfollowed := true, recurses := true, named := ["internal/bytealg.MaxLen"], loops := true, plainKeys := false, apart := false }
def OrderSheetsSaid : Prop := orderSheetsRow.holds Tryz.pinned (OpenSpec.ofChange orderSheetsSpec)

/-- ITS FALSE NEIGHBOUR: 'it returns false'. Refute it at one input. -/
def orderSheetsWrong : ChangeSpec := { name := "orderSheets", fn := fun _ => fun
  | [d1, d2, d3] => { results := [.lit (.bool false)], args := [d1, d2, d3] }
  | _ => none }
def OrderSheetsWrongFalsely : Prop := orderSheetsRow.holds Tryz.pinned (OpenSpec.ofChange orderSheetsWrong)

/-- 'winnowinglaw15.OrderTwice': WHATEVER THE INPUT: true; the input reads as it did. -/
def orderTwiceSpec : ChangeSpec := { name := "orderTwice", fn := fun _ => fun
  | [d1, d2, d3] => { results := [.lit (.bool true)], args := [d1, d2, d3] }
  | _ => none }
def orderTwiceRow : OpenClaim := { program := "ytoilbphgflgbeaagreat", sum := "3fc029b6a5356ef50c55dfb0bed0e872df80faf09fee81ff4ac3fd9cea94c9f6", func := "winnowing/winnowinglaw15.OrderTwice", spec := "orderTwice", inPlace := ["internal/bytealg.IndexByteString", "internal/bytealg.IndexString"], unfollowed := true, recurses := true, named := ["internal/bytealg.MaxLen"], loops := true, plainKeys := false, apart := false }
def OrderTwiceSaid : Prop := orderTwiceRow.holds Tryz.pinned (OpenSpec.ofChange orderTwiceSpec)

/-- ITS FALSE NEIGHBOUR: 'it returns false'. Refute it at one input. -/
def orderTwiceWrong : ChangeSpec := { name := "orderTwice", fn := fun _ => fun
  | [d1, d2, d3] => { results := [.lit (.bool false)], args := [d1, d2, d3] }
  | _ => none }
def OrderTwiceWrongFalsely : Prop := orderTwiceRow.holds Tryz.pinned (OpenSpec.ofChange orderTwiceWrong)

/-- 'winnowinglaw15.OrderWidth': WHATEVER THE INPUT: true; the input reads as it did. -/
def orderWidthSpec : ChangeSpec := { name := "orderWidth", fn := fun _ => fun
  | [d1, d2, d3] => { results := [.lit (.bool true)], args := [d1, d2, d3] }
  | _ => none }
def orderWidthRow : OpenClaim := { program := "ytoilbphgflgbeaagreat", sum := "3fc029b6a5356ef50c55dfb0bed0e872df80faf09fee81ff4ac3fd9cea94c9f6", func := "winnowing/winnowinglaw15.OrderWidth", spec := "orderWidth", inPlace := ["internal/bytealg.IndexByteString", "internal/bytealg.IndexString"], unfollowed := true, recurses := true, named := ["internal/bytealg.MaxLen"], loops := true, plainKeys := false, apart := false }
def OrderWidthSaid : Prop := orderWidthRow.holds Tryz.pinned (OpenSpec.ofChange orderWidthSpec)

/-- ITS FALSE NEIGHBOUR: 'it returns false'. Refute it at one input. -/
def orderWidthWrong : ChangeSpec := { name := "orderWidth", fn := fun _ => fun
  | [d1, d2, d3] => { results := [.lit (.bool false)], args := [d1, d2, d3] }
  | _ => none }
def OrderWidthWrongFalsely : Prop := orderWidthRow.holds Tryz.pinned (OpenSpec.ofChange orderWidthWrong)

/- THE SECOND FORM. 'bulk': how many values and letters a reading holds, each counted each time it is reached (what is shared counts as often as it is met; a slice's spare places count too). A statement '..UptoSaid' is the law's where the arguments, and the package variables that the reading takes, are together of bulk at most 1048576: NARROWER than '..Said'. Prove '..Said' where nothing that the law and all that it calls make is longer than what came in: it says more and counts as full. Else prove '..UptoSaid'. A law counts once. -/
mutual
def uptoBulk {H : Type} : DataW H → Nat
  | .lit (.string bytes) => bytes.length + 1
  | .lit _ => 1
  | .nil => 1
  | .ptr d => uptoBulk d + 1
  | .slice elems spare => uptoBulkAll elems + uptoBulkAll spare + 1
  | .agg parts => uptoBulkAll parts + 1
  | .iface _ d => uptoBulk d + 1
  | .map entries => uptoBulkEntries entries + 1
  | .held _ => 1
def uptoBulkAll {H : Type} : List (DataW H) → Nat
  | [] => 0
  | d :: r => uptoBulk d + uptoBulkAll r
def uptoBulkEntries {H : Type} : List (Lit × DataW H) → Nat
  | [] => 0
  | x :: r => uptoBulkEntry x + uptoBulkEntries r
def uptoBulkEntry {H : Type} : Lit × DataW H → Nat
  | (.string bytes, d) => bytes.length + uptoBulk d + 1
  | (_, d) => uptoBulk d + 1
 end
def uptoSmall : (H : Type) → List (DataW H) → Bool := fun _ ds => decide (uptoBulkAll ds ≤ 1048576)
def OpenSpec.upto (s : _root_.Go.ChangeSpec) : _root_.Go.OpenSpec := { _root_.Go.OpenSpec.ofChange s with cond := some uptoSmall }

/-- 'winnowinglaw15.OrderTells', WHERE WHAT IT READS IS OF BULK AT MOST 1048576: true; the input reads as it did. -/
def orderTellsUptoRow : OpenClaim := { program := "ytoilbphgflgbeaagreat", sum := "3fc029b6a5356ef50c55dfb0bed0e872df80faf09fee81ff4ac3fd9cea94c9f6", func := "winnowing/winnowinglaw15.OrderTells", spec := "orderTells", inPlace := ["internal/bytealg.IndexByteString", "internal/bytealg.IndexString"], unfollowed := true, recurses := true, named := ["internal/bytealg.MaxLen"], loops := true, plainKeys := false, apart := false, narrowed := true }
def OrderTellsUptoSaid : Prop := orderTellsUptoRow.holds Tryz.pinned (OpenSpec.upto orderTellsSpec)

/-- 'winnowinglaw15.OrderWins', WHERE WHAT IT READS IS OF BULK AT MOST 1048576: true; the input reads as it did. -/
def orderWinsUptoRow : OpenClaim := { program := "ytoilbphgflgbeaagreat", sum := "3fc029b6a5356ef50c55dfb0bed0e872df80faf09fee81ff4ac3fd9cea94c9f6", func := "winnowing/winnowinglaw15.OrderWins", spec := "orderWins", inPlace := ["internal/bytealg.IndexByteString", "internal/bytealg.IndexString"], unfollowed := true, recurses := true, named := ["internal/bytealg.MaxLen"], loops := true, plainKeys := false, apart := false, narrowed := true }
def OrderWinsUptoSaid : Prop := orderWinsUptoRow.holds Tryz.pinned (OpenSpec.upto orderWinsSpec)

/-- 'winnowinglaw15.OrderTotal', WHERE WHAT IT READS IS OF BULK AT MOST 1048576: true; the input reads as it did. -/
def orderTotalUptoRow : OpenClaim := { program := "ytoilbphgflgbeaagreat", sum := "3fc029b6a5356ef50c55dfb0bed0e872df80faf09fee81ff4ac3fd9cea94c9f6", func := "winnowing/winnowinglaw15.OrderTotal", spec := "orderTotal", inPlace := ["internal/bytealg.IndexByteString", "internal/bytealg.IndexString"], unfollowed := true, recurses := true, named := ["internal/bytealg.MaxLen"], loops := true, plainKeys := false, apart := false, narrowed := true }
def OrderTotalUptoSaid : Prop := orderTotalUptoRow.holds Tryz.pinned (OpenSpec.upto orderTotalSpec)

/-- 'winnowinglaw15.OrderSheets', WHERE WHAT IT READS IS OF BULK AT MOST 1048576: true; the input reads as it did. -/
def orderSheetsUptoRow : OpenClaim := { program := "ytoilbphgflgbeaagreat", sum := "3fc029b6a5356ef50c55dfb0bed0e872df80faf09fee81ff4ac3fd9cea94c9f6", func := "winnowing/winnowinglaw15.OrderSheets", spec := "orderSheets", inPlace := ["internal/bytealg.IndexByteString", "internal/bytealg.IndexString"], unfollowed := true, recurses := true, named := ["internal/bytealg.MaxLen"], loops := true, plainKeys := false, apart := false, narrowed := true }
def OrderSheetsUptoSaid : Prop := orderSheetsUptoRow.holds Tryz.pinned (OpenSpec.upto orderSheetsSpec)

/-- 'winnowinglaw15.OrderTwice', WHERE WHAT IT READS IS OF BULK AT MOST 1048576: true; the input reads as it did. -/
def orderTwiceUptoRow : OpenClaim := { program := "ytoilbphgflgbeaagreat", sum := "3fc029b6a5356ef50c55dfb0bed0e872df80faf09fee81ff4ac3fd9cea94c9f6", func := "winnowing/winnowinglaw15.OrderTwice", spec := "orderTwice", inPlace := ["internal/bytealg.IndexByteString", "internal/bytealg.IndexString"], unfollowed := true, recurses := true, named := ["internal/bytealg.MaxLen"], loops := true, plainKeys := false, apart := false, narrowed := true }
def OrderTwiceUptoSaid : Prop := orderTwiceUptoRow.holds Tryz.pinned (OpenSpec.upto orderTwiceSpec)

/-- 'winnowinglaw15.OrderWidth', WHERE WHAT IT READS IS OF BULK AT MOST 1048576: true; the input reads as it did. -/
def orderWidthUptoRow : OpenClaim := { program := "ytoilbphgflgbeaagreat", sum := "3fc029b6a5356ef50c55dfb0bed0e872df80faf09fee81ff4ac3fd9cea94c9f6", func := "winnowing/winnowinglaw15.OrderWidth", spec := "orderWidth", inPlace := ["internal/bytealg.IndexByteString", "internal/bytealg.IndexString"], unfollowed := true, recurses := true, named := ["internal/bytealg.MaxLen"], loops := true, plainKeys := false, apart := false, narrowed := true }
def OrderWidthUptoSaid : Prop := orderWidthUptoRow.holds Tryz.pinned (OpenSpec.upto orderWidthSpec)

end Rows
end Go.Proofs.YtoilbphgflgbeaaGreat
