/-
  NARROWER THAN 'FOR EVERY INPUT', by the rows' own cells (each row's printed sentence says how): MatchTells: loops · MatchRecurs: loops · MatchLess: loops · MatchNot: loops · MatchPseudo: loops.
  DERIVED. THE GIVEN ROWS OF THIS SEAT. 6 by the template 'for every input the law returns true; each argument reads behind the call as it read before'; 0 by the template 'total and deterministic' (their statements: YtjfknmjdkdcfjaaGreatTotals.lean).
  GIVEN WITH THE SEED: the statements are not yours to turn. If you find one false, say at which input.
  Laid BY PROGRAM, IN A SANDBOX (cutbox-rows.mjs): the forced cells as the released guide's own fill.sh prints them over the translation e50401453d3428de… (all of the seat's roots in one cut). By AI agents, Wed Nov 11 2026. No macro, syntax, notation, axiom, sorry.
-/
import Derived.Test.YtjfknmjdkdcfjaaGreatChecked
import GoSem.Claim
import GoSem.ClaimJoined
import GoSem.ClaimMapViews
import Derived.JoinedTies
import Derived.KernelRfl
namespace Go.Proofs.YtjfknmjdkdcfjaaGreat
/- THE CELL 'sum', in the pinned program and in every row, IS THE sha256 OF THE DUMP (.gsa) THAT YtjfknmjdkdcfjaaGreatProg.lean LOADS. Nothing in Lean hashes anything: it is a label: what it is worth is what the hold of that sum in a sandbox is worth. -/
noncomputable def Tryz.pinned : Pinned := { name := "ytjfknmjdkdcfjaagreat", sum := "e50401453d3428ded17ed17aad21fcb28837ac0b52da068b35cb1a4e1c582a69", checked := Tryz.checked }
namespace Rows
def none {H : Type} : Left H := { results := [], args := [] }

/-- 'winnowinglaw12.MatchTells': WHATEVER THE INPUT: true; the input reads as it did. -/
def matchTellsSpec : ChangeSpec := { name := "matchTells", fn := fun _ => fun
  | [d1, d2, d3] => { results := [.lit (.bool true)], args := [d1, d2, d3] }
  | _ => none }
def matchTellsRow : OpenClaim := { program := "ytjfknmjdkdcfjaagreat", sum := "e50401453d3428ded17ed17aad21fcb28837ac0b52da068b35cb1a4e1c582a69", func := "winnowing/winnowinglaw12.MatchTells", spec := "matchTells", inPlace := ["internal/bytealg.IndexByteString", "internal/bytealg.IndexString"], unfollowed := true, recurses := true, named := ["internal/bytealg.MaxLen"], loops := true, plainKeys := false, apart := false }
def MatchTellsSaid : Prop := matchTellsRow.holds Tryz.pinned (OpenSpec.ofChange matchTellsSpec)

/-- ITS FALSE NEIGHBOUR: 'it returns false'. Refute it at one input. -/
def matchTellsWrong : ChangeSpec := { name := "matchTells", fn := fun _ => fun
  | [d1, d2, d3] => { results := [.lit (.bool false)], args := [d1, d2, d3] }
  | _ => none }
def MatchTellsWrongFalsely : Prop := matchTellsRow.holds Tryz.pinned (OpenSpec.ofChange matchTellsWrong)

/-- 'winnowinglaw12.MatchRecurs': WHATEVER THE INPUT: true; the input reads as it did. -/
def matchRecursSpec : ChangeSpec := { name := "matchRecurs", fn := fun _ => fun
  | [d1, d2, d3] => { results := [.lit (.bool true)], args := [d1, d2, d3] }
  | _ => none }
def matchRecursRow : OpenClaim := { program := "ytjfknmjdkdcfjaagreat", sum := "e50401453d3428ded17ed17aad21fcb28837ac0b52da068b35cb1a4e1c582a69", func := "winnowing/winnowinglaw12.MatchRecurs", spec := "matchRecurs", inPlace := ["internal/bytealg.IndexByteString", "internal/bytealg.IndexString"], unfollowed := true, recurses := true, named := ["internal/bytealg.MaxLen"], loops := true, plainKeys := false, apart := false }
def MatchRecursSaid : Prop := matchRecursRow.holds Tryz.pinned (OpenSpec.ofChange matchRecursSpec)

/-- ITS FALSE NEIGHBOUR: 'it returns false'. Refute it at one input. -/
def matchRecursWrong : ChangeSpec := { name := "matchRecurs", fn := fun _ => fun
  | [d1, d2, d3] => { results := [.lit (.bool false)], args := [d1, d2, d3] }
  | _ => none }
def MatchRecursWrongFalsely : Prop := matchRecursRow.holds Tryz.pinned (OpenSpec.ofChange matchRecursWrong)

/-- 'winnowinglaw12.MatchLess': WHATEVER THE INPUT: true; the input reads as it did. -/
def matchLessSpec : ChangeSpec := { name := "matchLess", fn := fun _ => fun
  | [d1, d2, d3] => { results := [.lit (.bool true)], args := [d1, d2, d3] }
  | _ => none }
def matchLessRow : OpenClaim := { program := "ytjfknmjdkdcfjaagreat", sum := "e50401453d3428ded17ed17aad21fcb28837ac0b52da068b35cb1a4e1c582a69", func := "winnowing/winnowinglaw12.MatchLess", spec := "matchLess", inPlace := ["internal/bytealg.IndexByteString", "internal/bytealg.IndexString"], unfollowed := true, recurses := true, named := ["internal/bytealg.MaxLen"], loops := true, plainKeys := false, apart := false }
def MatchLessSaid : Prop := matchLessRow.holds Tryz.pinned (OpenSpec.ofChange matchLessSpec)

/-- ITS FALSE NEIGHBOUR: 'it returns false'. Refute it at one input. -/
def matchLessWrong : ChangeSpec := { name := "matchLess", fn := fun _ => fun
  | [d1, d2, d3] => { results := [.lit (.bool false)], args := [d1, d2, d3] }
  | _ => none }
def MatchLessWrongFalsely : Prop := matchLessRow.holds Tryz.pinned (OpenSpec.ofChange matchLessWrong)

/-- 'winnowinglaw12.MatchNot': WHATEVER THE INPUT: true; the input reads as it did. -/
def matchNotSpec : ChangeSpec := { name := "matchNot", fn := fun _ => fun
  | [d1, d2, d3] => { results := [.lit (.bool true)], args := [d1, d2, d3] }
  | _ => none }
def matchNotRow : OpenClaim := { program := "ytjfknmjdkdcfjaagreat", sum := "e50401453d3428ded17ed17aad21fcb28837ac0b52da068b35cb1a4e1c582a69", func := "winnowing/winnowinglaw12.MatchNot", spec := "matchNot", inPlace := ["internal/bytealg.IndexByteString", "internal/bytealg.IndexString"], unfollowed := true, recurses := true, named := ["internal/bytealg.MaxLen"], loops := true, plainKeys := false, apart := false }
def MatchNotSaid : Prop := matchNotRow.holds Tryz.pinned (OpenSpec.ofChange matchNotSpec)

/-- ITS FALSE NEIGHBOUR: 'it returns false'. Refute it at one input. -/
def matchNotWrong : ChangeSpec := { name := "matchNot", fn := fun _ => fun
  | [d1, d2, d3] => { results := [.lit (.bool false)], args := [d1, d2, d3] }
  | _ => none }
def MatchNotWrongFalsely : Prop := matchNotRow.holds Tryz.pinned (OpenSpec.ofChange matchNotWrong)

/-- 'winnowinglaw12.MatchPseudo': WHATEVER THE INPUT: true; the input reads as it did. -/
def matchPseudoSpec : ChangeSpec := { name := "matchPseudo", fn := fun _ => fun
  | [d1, d2] => { results := [.lit (.bool true)], args := [d1, d2] }
  | _ => none }
def matchPseudoRow : OpenClaim := { program := "ytjfknmjdkdcfjaagreat", sum := "e50401453d3428ded17ed17aad21fcb28837ac0b52da068b35cb1a4e1c582a69", func := "winnowing/winnowinglaw12.MatchPseudo", spec := "matchPseudo", inPlace := ["internal/bytealg.IndexByteString", "internal/bytealg.IndexString"], unfollowed := true, recurses := true, named := ["internal/bytealg.MaxLen"], loops := true, plainKeys := false, apart := false }
def MatchPseudoSaid : Prop := matchPseudoRow.holds Tryz.pinned (OpenSpec.ofChange matchPseudoSpec)

/-- ITS FALSE NEIGHBOUR: 'it returns false'. Refute it at one input. -/
def matchPseudoWrong : ChangeSpec := { name := "matchPseudo", fn := fun _ => fun
  | [d1, d2] => { results := [.lit (.bool false)], args := [d1, d2] }
  | _ => none }
def MatchPseudoWrongFalsely : Prop := matchPseudoRow.holds Tryz.pinned (OpenSpec.ofChange matchPseudoWrong)

/-- 'winnowinglaw12.MatchPlain': WHATEVER THE INPUT: true; the input reads as it did. -/
def matchPlainSpec : ChangeSpec := { name := "matchPlain", fn := fun _ => fun
  | [d1, d2] => { results := [.lit (.bool true)], args := [d1, d2] }
  | _ => none }
def matchPlainRow : OpenClaim := { program := "ytjfknmjdkdcfjaagreat", sum := "e50401453d3428ded17ed17aad21fcb28837ac0b52da068b35cb1a4e1c582a69", func := "winnowing/winnowinglaw12.MatchPlain", spec := "matchPlain", inPlace := ["internal/bytealg.IndexByteString", "internal/bytealg.IndexString"], unfollowed := true, recurses := true, named := ["internal/bytealg.MaxLen"], plainKeys := false, apart := false }
def MatchPlainSaid : Prop := matchPlainRow.holds Tryz.pinned (OpenSpec.ofChange matchPlainSpec)

/-- ITS FALSE NEIGHBOUR: 'it returns false'. Refute it at one input. -/
def matchPlainWrong : ChangeSpec := { name := "matchPlain", fn := fun _ => fun
  | [d1, d2] => { results := [.lit (.bool false)], args := [d1, d2] }
  | _ => none }
def MatchPlainWrongFalsely : Prop := matchPlainRow.holds Tryz.pinned (OpenSpec.ofChange matchPlainWrong)

/- THE SECOND FORM. 'bulk': how many values and letters a reading holds, each counted each time it is reached (what is shared counts as often as it is met; a slice's spare places count too). A statement '..UptoSaid' is the law's where the arguments, and the package variables that the reading takes, are together of bulk at most 1048576: NARROWER than '..Said'. Prove '..Said' where nothing that the law and all that it calls make is longer than what came in: it says more and counts as full. Else prove '..UptoSaid'. A law counts once. -/
mutual
def uptoBulk {H : Type} : DataW H → Nat
  | .lit (.string bytes) => bytes.length + 1
  | .lit _ => 1
  | .nil => 1
  | .ptr d => uptoBulk d + 1
  | .slice elems spare => uptoBulkAll elems + uptoBulkAll spare + 1
  | .agg parts => uptoBulkAll parts + 1
  | .iface _ d => uptoBulk d + 1
  | .map entries => uptoBulkEntries entries + 1
  | .held _ => 1
def uptoBulkAll {H : Type} : List (DataW H) → Nat
  | [] => 0
  | d :: r => uptoBulk d + uptoBulkAll r
def uptoBulkEntries {H : Type} : List (Lit × DataW H) → Nat
  | [] => 0
  | x :: r => uptoBulkEntry x + uptoBulkEntries r
def uptoBulkEntry {H : Type} : Lit × DataW H → Nat
  | (.string bytes, d) => bytes.length + uptoBulk d + 1
  | (_, d) => uptoBulk d + 1
 end
def uptoSmall : (H : Type) → List (DataW H) → Bool := fun _ ds => decide (uptoBulkAll ds ≤ 1048576)
def OpenSpec.upto (s : _root_.Go.ChangeSpec) : _root_.Go.OpenSpec := { _root_.Go.OpenSpec.ofChange s with cond := some uptoSmall }

/-- 'winnowinglaw12.MatchTells', WHERE WHAT IT READS IS OF BULK AT MOST 1048576: true; the input reads as it did. -/
def matchTellsUptoRow : OpenClaim := { program := "ytjfknmjdkdcfjaagreat", sum := "e50401453d3428ded17ed17aad21fcb28837ac0b52da068b35cb1a4e1c582a69", func := "winnowing/winnowinglaw12.MatchTells", spec := "matchTells", inPlace := ["internal/bytealg.IndexByteString", "internal/bytealg.IndexString"], unfollowed := true, recurses := true, named := ["internal/bytealg.MaxLen"], loops := true, plainKeys := false, apart := false, narrowed := true }
def MatchTellsUptoSaid : Prop := matchTellsUptoRow.holds Tryz.pinned (OpenSpec.upto matchTellsSpec)

/-- 'winnowinglaw12.MatchRecurs', WHERE WHAT IT READS IS OF BULK AT MOST 1048576: true; the input reads as it did. -/
def matchRecursUptoRow : OpenClaim := { program := "ytjfknmjdkdcfjaagreat", sum := "e50401453d3428ded17ed17aad21fcb28837ac0b52da068b35cb1a4e1c582a69", func := "winnowing/winnowinglaw12.MatchRecurs", spec := "matchRecurs", inPlace := ["internal/bytealg.IndexByteString", "internal/bytealg.IndexString"], unfollowed := true, recurses := true, named := ["internal/bytealg.MaxLen"], loops := true, plainKeys := false, apart := false, narrowed := true }
def MatchRecursUptoSaid : Prop := matchRecursUptoRow.holds Tryz.pinned (OpenSpec.upto matchRecursSpec)

/-- 'winnowinglaw12.MatchLess', WHERE WHAT IT READS IS OF BULK AT MOST 1048576: true; the input reads as it did. -/
def matchLessUptoRow : OpenClaim := { program := "ytjfknmjdkdcfjaagreat", sum := "e50401453d3428ded17ed17aad21fcb28837ac0b52da068b35cb1a4e1c582a69", func := "winnowing/winnowinglaw12.MatchLess", spec := "matchLess", inPlace := ["internal/bytealg.IndexByteString", "internal/bytealg.IndexString"], unfollowed := true, recurses := true, named := ["internal/bytealg.MaxLen"], loops := true, plainKeys := false, apart := false, narrowed := true }
def MatchLessUptoSaid : Prop := matchLessUptoRow.holds Tryz.pinned (OpenSpec.upto matchLessSpec)

/-- 'winnowinglaw12.MatchNot', WHERE WHAT IT READS IS OF BULK AT MOST 1048576: true; the input reads as it did. -/
def matchNotUptoRow : OpenClaim := { program := "ytjfknmjdkdcfjaagreat", sum := "e50401453d3428ded17ed17aad21fcb28837ac0b52da068b35cb1a4e1c582a69", func := "winnowing/winnowinglaw12.MatchNot", spec := "matchNot", inPlace := ["internal/bytealg.IndexByteString", "internal/bytealg.IndexString"], unfollowed := true, recurses := true, named := ["internal/bytealg.MaxLen"], loops := true, plainKeys := false, apart := false, narrowed := true }
def MatchNotUptoSaid : Prop := matchNotUptoRow.holds Tryz.pinned (OpenSpec.upto matchNotSpec)

/-- 'winnowinglaw12.MatchPseudo', WHERE WHAT IT READS IS OF BULK AT MOST 1048576: true; the input reads as it did. -/
def matchPseudoUptoRow : OpenClaim := { program := "ytjfknmjdkdcfjaagreat", sum := "e50401453d3428ded17ed17aad21fcb28837ac0b52da068b35cb1a4e1c582a69", func := "winnowing/winnowinglaw12.MatchPseudo", spec := "matchPseudo", inPlace := ["internal/bytealg.IndexByteString", "internal/bytealg.IndexString"], unfollowed := true, recurses := true, named := ["internal/bytealg.MaxLen"], loops := true, plainKeys := false, apart := false, narrowed := true }
def MatchPseudoUptoSaid : Prop := matchPseudoUptoRow.holds Tryz.pinned (OpenSpec.upto matchPseudoSpec)

/-- 'winnowinglaw12.MatchPlain', WHERE WHAT IT READS IS OF BULK AT MOST 1048576: true; the input reads as it did. -/
def matchPlainUptoRow : OpenClaim := { program := "ytjfknmjdkdcfjaagreat", sum := "e50401453d3428ded17ed17aad21fcb28837ac0b52da068b35cb1a4e1c582a69", func := "winnowing/winnowinglaw12.MatchPlain", spec := "matchPlain", inPlace := ["internal/bytealg.IndexByteString", "internal/bytealg.IndexString"], unfollowed := true, recurses := true, named := ["internal/bytealg.MaxLen"], plainKeys := false, apart := false, narrowed := true }
def MatchPlainUptoSaid : Prop := matchPlainUptoRow.holds Tryz.pinned (OpenSpec.upto matchPlainSpec)

end Rows
end Go.Proofs.YtjfknmjdkdcfjaaGreat
