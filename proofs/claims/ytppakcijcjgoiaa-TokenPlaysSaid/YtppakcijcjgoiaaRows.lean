/-
  No cell of these rows narrows 'for every input' (looked for: loops, veiled, ifaces, maps, wideKeys, modest, calm, conditions, laid).
  DERIVED. THE GIVEN ROWS OF THIS SEAT. 5 by the template 'for every input the law returns true; each argument reads behind the call as it read before'; 0 by the template 'total and deterministic' (their statements: YtppakcijcjgoiaaTotals.lean).
  GIVEN WITH THE SEED: the statements are not yours to turn. If you find one false, say at which input.
  Laid BY PROGRAM, IN A SANDBOX (cutbox-rows.mjs): the forced cells as the released guide's own fill.sh prints them over the translation 27f4970db517f327… (all of the seat's roots in one cut). By AI agents, Wed Nov 11 2026. No macro, syntax, notation, axiom, sorry.
-/
import Derived.Test.YtppakcijcjgoiaaChecked
import GoSem.Claim
import GoSem.ClaimJoined
import GoSem.ClaimMapViews
import Derived.JoinedTies
import Derived.KernelRfl
namespace Go.Proofs.Ytppakcijcjgoiaa
/- THE CELL 'sum', in the pinned program and in every row, IS THE sha256 OF THE DUMP (.gsa) THAT YtppakcijcjgoiaaProg.lean LOADS. Nothing in Lean hashes anything: it is a label: what it is worth is what the hold of that sum in a sandbox is worth. -/
noncomputable def Try.pinned : Pinned := { name := "ytppakcijcjgoiaa", sum := "27f4970db517f327484c8554d8005136e510776a06ecbffe27e445822a413bbf", checked := Try.checked }
namespace Rows
def none {H : Type} : Left H := { results := [], args := [] }

/-- 'quicksetlaw04.TokenTurns': WHATEVER THE INPUT: true; the input reads as it did. -/
def tokenTurnsSpec : ChangeSpec := { name := "tokenTurns", fn := fun _ => fun
  | [d1, d2, d3] => { results := [.lit (.bool true)], args := [d1, d2, d3] }
  | _ => none }
def tokenTurnsRow : OpenClaim := { program := "ytppakcijcjgoiaa", sum := "27f4970db517f327484c8554d8005136e510776a06ecbffe27e445822a413bbf", func := "quickset/quicksetlaw04.TokenTurns", spec := "tokenTurns", apart := false }
def TokenTurnsSaid : Prop := tokenTurnsRow.holds Try.pinned (OpenSpec.ofChange tokenTurnsSpec)

/-- ITS FALSE NEIGHBOUR: 'it returns false'. Refute it at one input. -/
def tokenTurnsWrong : ChangeSpec := { name := "tokenTurns", fn := fun _ => fun
  | [d1, d2, d3] => { results := [.lit (.bool false)], args := [d1, d2, d3] }
  | _ => none }
def TokenTurnsWrongFalsely : Prop := tokenTurnsRow.holds Try.pinned (OpenSpec.ofChange tokenTurnsWrong)

/-- 'quicksetlaw04.TokenFull': WHATEVER THE INPUT: true; the input reads as it did. -/
def tokenFullSpec : ChangeSpec := { name := "tokenFull", fn := fun _ => fun
  | [d] => { results := [.lit (.bool true)], args := [d] }
  | _ => none }
def tokenFullRow : OpenClaim := { program := "ytppakcijcjgoiaa", sum := "27f4970db517f327484c8554d8005136e510776a06ecbffe27e445822a413bbf", func := "quickset/quicksetlaw04.TokenFull", spec := "tokenFull", apart := false }
def TokenFullSaid : Prop := tokenFullRow.holds Try.pinned (OpenSpec.ofChange tokenFullSpec)

/-- ITS FALSE NEIGHBOUR: 'it returns false'. Refute it at one input. -/
def tokenFullWrong : ChangeSpec := { name := "tokenFull", fn := fun _ => fun
  | [d] => { results := [.lit (.bool false)], args := [d] }
  | _ => none }
def TokenFullWrongFalsely : Prop := tokenFullRow.holds Try.pinned (OpenSpec.ofChange tokenFullWrong)

/-- 'quicksetlaw04.TokenApart': WHATEVER THE INPUT: true; the input reads as it did. -/
def tokenApartSpec : ChangeSpec := { name := "tokenApart", fn := fun _ => fun
  | [d1, d2] => { results := [.lit (.bool true)], args := [d1, d2] }
  | _ => none }
def tokenApartRow : OpenClaim := { program := "ytppakcijcjgoiaa", sum := "27f4970db517f327484c8554d8005136e510776a06ecbffe27e445822a413bbf", func := "quickset/quicksetlaw04.TokenApart", spec := "tokenApart", apart := false }
def TokenApartSaid : Prop := tokenApartRow.holds Try.pinned (OpenSpec.ofChange tokenApartSpec)

/-- ITS FALSE NEIGHBOUR: 'it returns false'. Refute it at one input. -/
def tokenApartWrong : ChangeSpec := { name := "tokenApart", fn := fun _ => fun
  | [d1, d2] => { results := [.lit (.bool false)], args := [d1, d2] }
  | _ => none }
def TokenApartWrongFalsely : Prop := tokenApartRow.holds Try.pinned (OpenSpec.ofChange tokenApartWrong)

/-- 'quicksetlaw04.TokenPlays': WHATEVER THE INPUT: true; the input reads as it did. -/
def tokenPlaysSpec : ChangeSpec := { name := "tokenPlays", fn := fun _ => fun
  | [d1, d2] => { results := [.lit (.bool true)], args := [d1, d2] }
  | _ => none }
def tokenPlaysRow : OpenClaim := { program := "ytppakcijcjgoiaa", sum := "27f4970db517f327484c8554d8005136e510776a06ecbffe27e445822a413bbf", func := "quickset/quicksetlaw04.TokenPlays", spec := "tokenPlays", apart := false }
def TokenPlaysSaid : Prop := tokenPlaysRow.holds Try.pinned (OpenSpec.ofChange tokenPlaysSpec)

/-- ITS FALSE NEIGHBOUR: 'it returns false'. Refute it at one input. -/
def tokenPlaysWrong : ChangeSpec := { name := "tokenPlays", fn := fun _ => fun
  | [d1, d2] => { results := [.lit (.bool false)], args := [d1, d2] }
  | _ => none }
def TokenPlaysWrongFalsely : Prop := tokenPlaysRow.holds Try.pinned (OpenSpec.ofChange tokenPlaysWrong)

/-- 'quicksetlaw04.TokenNil': WHATEVER THE INPUT: true; the input reads as it did. -/
def tokenNilSpec : ChangeSpec := { name := "tokenNil", fn := fun _ => fun
  | [d] => { results := [.lit (.bool true)], args := [d] }
  | _ => none }
def tokenNilRow : OpenClaim := { program := "ytppakcijcjgoiaa", sum := "27f4970db517f327484c8554d8005136e510776a06ecbffe27e445822a413bbf", func := "quickset/quicksetlaw04.TokenNil", spec := "tokenNil", apart := false }
def TokenNilSaid : Prop := tokenNilRow.holds Try.pinned (OpenSpec.ofChange tokenNilSpec)

/-- ITS FALSE NEIGHBOUR: 'it returns false'. Refute it at one input. -/
def tokenNilWrong : ChangeSpec := { name := "tokenNil", fn := fun _ => fun
  | [d] => { results := [.lit (.bool false)], args := [d] }
  | _ => none }
def TokenNilWrongFalsely : Prop := tokenNilRow.holds Try.pinned (OpenSpec.ofChange tokenNilWrong)

/- THE SECOND FORM. 'bulk': how many values and letters a reading holds, each counted each time it is reached (what is shared counts as often as it is met; a slice's spare places count too). A statement '..UptoSaid' is the law's where the arguments, and the package variables that the reading takes, are together of bulk at most 1048576: NARROWER than '..Said'. Prove '..Said' where nothing that the law and all that it calls make is longer than what came in: it says more and counts as full. Else prove '..UptoSaid'. A law counts once. -/
mutual
def uptoBulk {H : Type} : DataW H → Nat
  | .lit (.string bytes) => bytes.length + 1
  | .lit _ => 1
  | .nil => 1
  | .ptr d => uptoBulk d + 1
  | .slice elems spare => uptoBulkAll elems + uptoBulkAll spare + 1
  | .agg parts => uptoBulkAll parts + 1
  | .iface _ d => uptoBulk d + 1
  | .map entries => uptoBulkEntries entries + 1
  | .held _ => 1
def uptoBulkAll {H : Type} : List (DataW H) → Nat
  | [] => 0
  | d :: r => uptoBulk d + uptoBulkAll r
def uptoBulkEntries {H : Type} : List (Lit × DataW H) → Nat
  | [] => 0
  | x :: r => uptoBulkEntry x + uptoBulkEntries r
def uptoBulkEntry {H : Type} : Lit × DataW H → Nat
  | (.string bytes, d) => bytes.length + uptoBulk d + 1
  | (_, d) => uptoBulk d + 1
 end
def uptoSmall : (H : Type) → List (DataW H) → Bool := fun _ ds => decide (uptoBulkAll ds ≤ 1048576)
def OpenSpec.upto (s : _root_.Go.ChangeSpec) : _root_.Go.OpenSpec := { _root_.Go.OpenSpec.ofChange s with cond := some uptoSmall }

/-- 'quicksetlaw04.TokenTurns', WHERE WHAT IT READS IS OF BULK AT MOST 1048576: true; the input reads as it did. -/
def tokenTurnsUptoRow : OpenClaim := { program := "ytppakcijcjgoiaa", sum := "27f4970db517f327484c8554d8005136e510776a06ecbffe27e445822a413bbf", func := "quickset/quicksetlaw04.TokenTurns", spec := "tokenTurns", apart := false, narrowed := true }
def TokenTurnsUptoSaid : Prop := tokenTurnsUptoRow.holds Try.pinned (OpenSpec.upto tokenTurnsSpec)

/-- 'quicksetlaw04.TokenFull', WHERE WHAT IT READS IS OF BULK AT MOST 1048576: true; the input reads as it did. -/
def tokenFullUptoRow : OpenClaim := { program := "ytppakcijcjgoiaa", sum := "27f4970db517f327484c8554d8005136e510776a06ecbffe27e445822a413bbf", func := "quickset/quicksetlaw04.TokenFull", spec := "tokenFull", apart := false, narrowed := true }
def TokenFullUptoSaid : Prop := tokenFullUptoRow.holds Try.pinned (OpenSpec.upto tokenFullSpec)

/-- 'quicksetlaw04.TokenApart', WHERE WHAT IT READS IS OF BULK AT MOST 1048576: true; the input reads as it did. -/
def tokenApartUptoRow : OpenClaim := { program := "ytppakcijcjgoiaa", sum := "27f4970db517f327484c8554d8005136e510776a06ecbffe27e445822a413bbf", func := "quickset/quicksetlaw04.TokenApart", spec := "tokenApart", apart := false, narrowed := true }
def TokenApartUptoSaid : Prop := tokenApartUptoRow.holds Try.pinned (OpenSpec.upto tokenApartSpec)

/-- 'quicksetlaw04.TokenPlays', WHERE WHAT IT READS IS OF BULK AT MOST 1048576: true; the input reads as it did. -/
def tokenPlaysUptoRow : OpenClaim := { program := "ytppakcijcjgoiaa", sum := "27f4970db517f327484c8554d8005136e510776a06ecbffe27e445822a413bbf", func := "quickset/quicksetlaw04.TokenPlays", spec := "tokenPlays", apart := false, narrowed := true }
def TokenPlaysUptoSaid : Prop := tokenPlaysUptoRow.holds Try.pinned (OpenSpec.upto tokenPlaysSpec)

/-- 'quicksetlaw04.TokenNil', WHERE WHAT IT READS IS OF BULK AT MOST 1048576: true; the input reads as it did. -/
def tokenNilUptoRow : OpenClaim := { program := "ytppakcijcjgoiaa", sum := "27f4970db517f327484c8554d8005136e510776a06ecbffe27e445822a413bbf", func := "quickset/quicksetlaw04.TokenNil", spec := "tokenNil", apart := false, narrowed := true }
def TokenNilUptoSaid : Prop := tokenNilUptoRow.holds Try.pinned (OpenSpec.upto tokenNilSpec)

end Rows
end Go.Proofs.Ytppakcijcjgoiaa
