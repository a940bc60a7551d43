/-
  No cell of these rows narrows 'for every input' (looked for: loops, veiled, ifaces, maps, wideKeys, modest, calm, conditions, laid).
  DERIVED. THE GIVEN ROWS OF THIS SEAT. 3 by the template 'for every input the law returns true; each argument reads behind the call as it read before'; 0 by the template 'total and deterministic' (their statements: YtcldomgdkhenpaaGreatTotals.lean).
  GIVEN WITH THE SEED: the statements are not yours to turn. If you find one false, say at which input.
  Laid BY PROGRAM, IN A SANDBOX (cutbox-rows.mjs): the forced cells as the released guide's own fill.sh prints them over the translation 74503e5be9877ac9… (all of the seat's roots in one cut). By AI agents, Wed Nov 11 2026. No macro, syntax, notation, axiom, sorry.
-/
import Derived.Test.YtcldomgdkhenpaaGreatChecked
import GoSem.Claim
import GoSem.ClaimJoined
import GoSem.ClaimMapViews
import Derived.JoinedTies
import Derived.KernelRfl
namespace Go.Proofs.YtcldomgdkhenpaaGreat
/- THE CELL 'sum', in the pinned program and in every row, IS THE sha256 OF THE DUMP (.gsa) THAT YtcldomgdkhenpaaGreatProg.lean LOADS. Nothing in Lean hashes anything: it is a label: what it is worth is what the hold of that sum in a sandbox is worth. -/
noncomputable def Tryz.pinned : Pinned := { name := "ytcldomgdkhenpaagreat", sum := "74503e5be9877ac9ddacaf20f1705bacc2c57d3c89e62dd7d0a64c36c531d277", checked := Tryz.checked }
namespace Rows
def none {H : Type} : Left H := { results := [], args := [] }

/-- 'quicksettop.TopFrozen': WHATEVER THE INPUT: true; the input reads as it did. -/
def topFrozenSpec : ChangeSpec := { name := "topFrozen", fn := fun _ => fun
  | [d1, d2, d3, d4, d5] => { results := [.lit (.bool true)], args := [d1, d2, d3, d4, d5] }
  | _ => none }
def topFrozenRow : OpenClaim := { program := "ytcldomgdkhenpaagreat", sum := "74503e5be9877ac9ddacaf20f1705bacc2c57d3c89e62dd7d0a64c36c531d277", func := "quickset/quicksettop.TopFrozen", spec := "topFrozen", inPlace := ["slices.overlaps[*quickset/radix.Node]", "slices.overlaps[quickset/pair.Pair]", "slices.overlaps[*quickset/node.Node]", "maps.clone"], unfollowed := true, recurses := true, apart := false }
def TopFrozenSaid : Prop := topFrozenRow.holds Tryz.pinned (OpenSpec.ofChange topFrozenSpec)

/-- ITS FALSE NEIGHBOUR: 'it returns false'. Refute it at one input. -/
def topFrozenWrong : ChangeSpec := { name := "topFrozen", fn := fun _ => fun
  | [d1, d2, d3, d4, d5] => { results := [.lit (.bool false)], args := [d1, d2, d3, d4, d5] }
  | _ => none }
def TopFrozenWrongFalsely : Prop := topFrozenRow.holds Tryz.pinned (OpenSpec.ofChange topFrozenWrong)

/-- 'quicksettop.TopMerges': WHATEVER THE INPUT: true; the input reads as it did. -/
def topMergesSpec : ChangeSpec := { name := "topMerges", fn := fun _ => fun
  | [d1, d2, d3, d4, d5, d6, d7] => { results := [.lit (.bool true)], args := [d1, d2, d3, d4, d5, d6, d7] }
  | _ => none }
def topMergesRow : OpenClaim := { program := "ytcldomgdkhenpaagreat", sum := "74503e5be9877ac9ddacaf20f1705bacc2c57d3c89e62dd7d0a64c36c531d277", func := "quickset/quicksettop.TopMerges", spec := "topMerges", inPlace := ["slices.overlaps[*quickset/radix.Node]", "slices.overlaps[quickset/pair.Pair]", "slices.overlaps[*quickset/node.Node]", "maps.clone"], unfollowed := true, recurses := true, apart := false }
def TopMergesSaid : Prop := topMergesRow.holds Tryz.pinned (OpenSpec.ofChange topMergesSpec)

/-- ITS FALSE NEIGHBOUR: 'it returns false'. Refute it at one input. -/
def topMergesWrong : ChangeSpec := { name := "topMerges", fn := fun _ => fun
  | [d1, d2, d3, d4, d5, d6, d7] => { results := [.lit (.bool false)], args := [d1, d2, d3, d4, d5, d6, d7] }
  | _ => none }
def TopMergesWrongFalsely : Prop := topMergesRow.holds Tryz.pinned (OpenSpec.ofChange topMergesWrong)

/-- 'quicksettop.TopAnswers': WHATEVER THE INPUT: true; the input reads as it did. -/
def topAnswersSpec : ChangeSpec := { name := "topAnswers", fn := fun _ => fun
  | [d1, d2, d3] => { results := [.lit (.bool true)], args := [d1, d2, d3] }
  | _ => none }
def topAnswersRow : OpenClaim := { program := "ytcldomgdkhenpaagreat", sum := "74503e5be9877ac9ddacaf20f1705bacc2c57d3c89e62dd7d0a64c36c531d277", func := "quickset/quicksettop.TopAnswers", spec := "topAnswers", inPlace := ["slices.overlaps[*quickset/radix.Node]", "slices.overlaps[quickset/pair.Pair]", "slices.overlaps[*quickset/node.Node]", "maps.clone"], unfollowed := true, recurses := true, apart := false }
def TopAnswersSaid : Prop := topAnswersRow.holds Tryz.pinned (OpenSpec.ofChange topAnswersSpec)

/-- ITS FALSE NEIGHBOUR: 'it returns false'. Refute it at one input. -/
def topAnswersWrong : ChangeSpec := { name := "topAnswers", fn := fun _ => fun
  | [d1, d2, d3] => { results := [.lit (.bool false)], args := [d1, d2, d3] }
  | _ => none }
def TopAnswersWrongFalsely : Prop := topAnswersRow.holds Tryz.pinned (OpenSpec.ofChange topAnswersWrong)

/- THE SECOND FORM. 'bulk': how many values and letters a reading holds, each counted each time it is reached (what is shared counts as often as it is met; a slice's spare places count too). A statement '..UptoSaid' is the law's where the arguments, and the package variables that the reading takes, are together of bulk at most 1048576: NARROWER than '..Said'. Prove '..Said' where nothing that the law and all that it calls make is longer than what came in: it says more and counts as full. Else prove '..UptoSaid'. A law counts once. -/
mutual
def uptoBulk {H : Type} : DataW H → Nat
  | .lit (.string bytes) => bytes.length + 1
  | .lit _ => 1
  | .nil => 1
  | .ptr d => uptoBulk d + 1
  | .slice elems spare => uptoBulkAll elems + uptoBulkAll spare + 1
  | .agg parts => uptoBulkAll parts + 1
  | .iface _ d => uptoBulk d + 1
  | .map entries => uptoBulkEntries entries + 1
  | .held _ => 1
def uptoBulkAll {H : Type} : List (DataW H) → Nat
  | [] => 0
  | d :: r => uptoBulk d + uptoBulkAll r
def uptoBulkEntries {H : Type} : List (Lit × DataW H) → Nat
  | [] => 0
  | x :: r => uptoBulkEntry x + uptoBulkEntries r
def uptoBulkEntry {H : Type} : Lit × DataW H → Nat
  | (.string bytes, d) => bytes.length + uptoBulk d + 1
  | (_, d) => uptoBulk d + 1
 end
def uptoSmall : (H : Type) → List (DataW H) → Bool := fun _ ds => decide (uptoBulkAll ds ≤ 1048576)
def OpenSpec.upto (s : _root_.Go.ChangeSpec) : _root_.Go.OpenSpec := { _root_.Go.OpenSpec.ofChange s with cond := some uptoSmall }

/-- 'quicksettop.TopFrozen', WHERE WHAT IT READS IS OF BULK AT MOST 1048576: true; the input reads as it did. -/
def topFrozenUptoRow : OpenClaim := { program := "ytcldomgdkhenpaagreat", sum := "74503e5be9877ac9ddacaf20f1705bacc2c57d3c89e62dd7d0a64c36c531d277", func := "quickset/quicksettop.TopFrozen", spec := "topFrozen", inPlace := ["slices.overlaps[*quickset/radix.Node]", "slices.overlaps[quickset/pair.Pair]", "slices.overlaps[*quickset/node.Node]", "maps.clone"], unfollowed := true, recurses := true, apart := false, narrowed := true }
def TopFrozenUptoSaid : Prop := topFrozenUptoRow.holds Tryz.pinned (OpenSpec.upto topFrozenSpec)

/-- 'quicksettop.TopMerges', WHERE WHAT IT READS IS OF BULK AT MOST 1048576: true; the input reads as it did. -/
def topMergesUptoRow : OpenClaim := { program := "ytcldomgdkhenpaagreat", sum := "74503e5be9877ac9ddacaf20f1705bacc2c57d3c89e62dd7d0a64c36c531d277", func := "quickset/quicksettop.TopMerges", spec := "topMerges", inPlace := ["slices.overlaps[*quickset/radix.Node]", "slices.overlaps[quickset/pair.Pair]", "slices.overlaps[*quickset/node.Node]", "maps.clone"], unfollowed := true, recurses := true, apart := false, narrowed := true }
def TopMergesUptoSaid : Prop := topMergesUptoRow.holds Tryz.pinned (OpenSpec.upto topMergesSpec)

/-- 'quicksettop.TopAnswers', WHERE WHAT IT READS IS OF BULK AT MOST 1048576: true; the input reads as it did. -/
def topAnswersUptoRow : OpenClaim := { program := "ytcldomgdkhenpaagreat", sum := "74503e5be9877ac9ddacaf20f1705bacc2c57d3c89e62dd7d0a64c36c531d277", func := "quickset/quicksettop.TopAnswers", spec := "topAnswers", inPlace := ["slices.overlaps[*quickset/radix.Node]", "slices.overlaps[quickset/pair.Pair]", "slices.overlaps[*quickset/node.Node]", "maps.clone"], unfollowed := true, recurses := true, apart := false, narrowed := true }
def TopAnswersUptoSaid : Prop := topAnswersUptoRow.holds Tryz.pinned (OpenSpec.upto topAnswersSpec)

end Rows
end Go.Proofs.YtcldomgdkhenpaaGreat
