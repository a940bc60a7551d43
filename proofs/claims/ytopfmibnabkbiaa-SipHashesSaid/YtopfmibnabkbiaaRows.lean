/-
  No cell of these rows narrows 'for every input' (looked for: loops, veiled, ifaces, maps, wideKeys, modest, calm, conditions, laid).
  DERIVED. THE GIVEN ROWS OF THIS SEAT. 4 by the template 'for every input the law returns true; each argument reads behind the call as it read before'; 0 by the template 'total and deterministic' (their statements: YtopfmibnabkbiaaTotals.lean).
  GIVEN WITH THE SEED: the statements are not yours to turn. If you find one false, say at which input.
  Laid BY PROGRAM, IN A SANDBOX (cutbox-rows.mjs): the forced cells as the released guide's own fill.sh prints them over the translation b46e7cc0921a8dfc… (all of the seat's roots in one cut). By AI agents, Wed Nov 11 2026. No macro, syntax, notation, axiom, sorry.
-/
import Derived.Test.YtopfmibnabkbiaaChecked
import GoSem.Claim
import GoSem.ClaimJoined
import GoSem.ClaimMapViews
import Derived.JoinedTies
import Derived.KernelRfl
namespace Go.Proofs.Ytopfmibnabkbiaa
/- THE CELL 'sum', in the pinned program and in every row, IS THE sha256 OF THE DUMP (.gsa) THAT YtopfmibnabkbiaaProg.lean LOADS. Nothing in Lean hashes anything: it is a label: what it is worth is what the hold of that sum in a sandbox is worth. -/
noncomputable def Try.pinned : Pinned := { name := "ytopfmibnabkbiaa", sum := "b46e7cc0921a8dfc7b635ec98aa812ccbbb4196adb0014fe4e55c788b9f43462", checked := Try.checked }
namespace Rows
def none {H : Type} : Left H := { results := [], args := [] }

/-- 'quicksetlaw01.SipSums': WHATEVER THE INPUT: true; the input reads as it did. -/
def sipSumsSpec : ChangeSpec := { name := "sipSums", fn := fun _ => fun
  | [d1, d2] => { results := [.lit (.bool true)], args := [d1, d2] }
  | _ => none }
def sipSumsRow : OpenClaim := { program := "ytopfmibnabkbiaa", sum := "b46e7cc0921a8dfc7b635ec98aa812ccbbb4196adb0014fe4e55c788b9f43462", func := "quickset/quicksetlaw01.SipSums", spec := "sipSums", apart := false }
def SipSumsSaid : Prop := sipSumsRow.holds Try.pinned (OpenSpec.ofChange sipSumsSpec)

/-- ITS FALSE NEIGHBOUR: 'it returns false'. Refute it at one input. -/
def sipSumsWrong : ChangeSpec := { name := "sipSums", fn := fun _ => fun
  | [d1, d2] => { results := [.lit (.bool false)], args := [d1, d2] }
  | _ => none }
def SipSumsWrongFalsely : Prop := sipSumsRow.holds Try.pinned (OpenSpec.ofChange sipSumsWrong)

/-- 'quicksetlaw01.SipTails': WHATEVER THE INPUT: true; the input reads as it did. -/
def sipTailsSpec : ChangeSpec := { name := "sipTails", fn := fun _ => fun
  | [d1, d2, d3] => { results := [.lit (.bool true)], args := [d1, d2, d3] }
  | _ => none }
def sipTailsRow : OpenClaim := { program := "ytopfmibnabkbiaa", sum := "b46e7cc0921a8dfc7b635ec98aa812ccbbb4196adb0014fe4e55c788b9f43462", func := "quickset/quicksetlaw01.SipTails", spec := "sipTails", apart := false }
def SipTailsSaid : Prop := sipTailsRow.holds Try.pinned (OpenSpec.ofChange sipTailsSpec)

/-- ITS FALSE NEIGHBOUR: 'it returns false'. Refute it at one input. -/
def sipTailsWrong : ChangeSpec := { name := "sipTails", fn := fun _ => fun
  | [d1, d2, d3] => { results := [.lit (.bool false)], args := [d1, d2, d3] }
  | _ => none }
def SipTailsWrongFalsely : Prop := sipTailsRow.holds Try.pinned (OpenSpec.ofChange sipTailsWrong)

/-- 'quicksetlaw01.SipMasks': WHATEVER THE INPUT: true; the input reads as it did. -/
def sipMasksSpec : ChangeSpec := { name := "sipMasks", fn := fun _ => fun
  | [d1, d2, d3, d4] => { results := [.lit (.bool true)], args := [d1, d2, d3, d4] }
  | _ => none }
def sipMasksRow : OpenClaim := { program := "ytopfmibnabkbiaa", sum := "b46e7cc0921a8dfc7b635ec98aa812ccbbb4196adb0014fe4e55c788b9f43462", func := "quickset/quicksetlaw01.SipMasks", spec := "sipMasks", apart := false }
def SipMasksSaid : Prop := sipMasksRow.holds Try.pinned (OpenSpec.ofChange sipMasksSpec)

/-- ITS FALSE NEIGHBOUR: 'it returns false'. Refute it at one input. -/
def sipMasksWrong : ChangeSpec := { name := "sipMasks", fn := fun _ => fun
  | [d1, d2, d3, d4] => { results := [.lit (.bool false)], args := [d1, d2, d3, d4] }
  | _ => none }
def SipMasksWrongFalsely : Prop := sipMasksRow.holds Try.pinned (OpenSpec.ofChange sipMasksWrong)

/-- 'quicksetlaw01.SipHashes': WHATEVER THE INPUT: true; the input reads as it did. -/
def sipHashesSpec : ChangeSpec := { name := "sipHashes", fn := fun _ => fun
  | [d1, d2, d3] => { results := [.lit (.bool true)], args := [d1, d2, d3] }
  | _ => none }
def sipHashesRow : OpenClaim := { program := "ytopfmibnabkbiaa", sum := "b46e7cc0921a8dfc7b635ec98aa812ccbbb4196adb0014fe4e55c788b9f43462", func := "quickset/quicksetlaw01.SipHashes", spec := "sipHashes", apart := false }
def SipHashesSaid : Prop := sipHashesRow.holds Try.pinned (OpenSpec.ofChange sipHashesSpec)

/-- ITS FALSE NEIGHBOUR: 'it returns false'. Refute it at one input. -/
def sipHashesWrong : ChangeSpec := { name := "sipHashes", fn := fun _ => fun
  | [d1, d2, d3] => { results := [.lit (.bool false)], args := [d1, d2, d3] }
  | _ => none }
def SipHashesWrongFalsely : Prop := sipHashesRow.holds Try.pinned (OpenSpec.ofChange sipHashesWrong)

/- THE SECOND FORM. 'bulk': how many values and letters a reading holds, each counted each time it is reached (what is shared counts as often as it is met; a slice's spare places count too). A statement '..UptoSaid' is the law's where the arguments, and the package variables that the reading takes, are together of bulk at most 1048576: NARROWER than '..Said'. Prove '..Said' where nothing that the law and all that it calls make is longer than what came in: it says more and counts as full. Else prove '..UptoSaid'. A law counts once. -/
mutual
def uptoBulk {H : Type} : DataW H → Nat
  | .lit (.string bytes) => bytes.length + 1
  | .lit _ => 1
  | .nil => 1
  | .ptr d => uptoBulk d + 1
  | .slice elems spare => uptoBulkAll elems + uptoBulkAll spare + 1
  | .agg parts => uptoBulkAll parts + 1
  | .iface _ d => uptoBulk d + 1
  | .map entries => uptoBulkEntries entries + 1
  | .held _ => 1
def uptoBulkAll {H : Type} : List (DataW H) → Nat
  | [] => 0
  | d :: r => uptoBulk d + uptoBulkAll r
def uptoBulkEntries {H : Type} : List (Lit × DataW H) → Nat
  | [] => 0
  | x :: r => uptoBulkEntry x + uptoBulkEntries r
def uptoBulkEntry {H : Type} : Lit × DataW H → Nat
  | (.string bytes, d) => bytes.length + uptoBulk d + 1
  | (_, d) => uptoBulk d + 1
 end
def uptoSmall : (H : Type) → List (DataW H) → Bool := fun _ ds => decide (uptoBulkAll ds ≤ 1048576)
def OpenSpec.upto (s : _root_.Go.ChangeSpec) : _root_.Go.OpenSpec := { _root_.Go.OpenSpec.ofChange s with cond := some uptoSmall }

/-- 'quicksetlaw01.SipSums', WHERE WHAT IT READS IS OF BULK AT MOST 1048576: true; the input reads as it did. -/
def sipSumsUptoRow : OpenClaim := { program := "ytopfmibnabkbiaa", sum := "b46e7cc0921a8dfc7b635ec98aa812ccbbb4196adb0014fe4e55c788b9f43462", func := "quickset/quicksetlaw01.SipSums", spec := "sipSums", apart := false, narrowed := true }
def SipSumsUptoSaid : Prop := sipSumsUptoRow.holds Try.pinned (OpenSpec.upto sipSumsSpec)

/-- 'quicksetlaw01.SipTails', WHERE WHAT IT READS IS OF BULK AT MOST 1048576: true; the input reads as it did. -/
def sipTailsUptoRow : OpenClaim := { program := "ytopfmibnabkbiaa", sum := "b46e7cc0921a8dfc7b635ec98aa812ccbbb4196adb0014fe4e55c788b9f43462", func := "quickset/quicksetlaw01.SipTails", spec := "sipTails", apart := false, narrowed := true }
def SipTailsUptoSaid : Prop := sipTailsUptoRow.holds Try.pinned (OpenSpec.upto sipTailsSpec)

/-- 'quicksetlaw01.SipMasks', WHERE WHAT IT READS IS OF BULK AT MOST 1048576: true; the input reads as it did. -/
def sipMasksUptoRow : OpenClaim := { program := "ytopfmibnabkbiaa", sum := "b46e7cc0921a8dfc7b635ec98aa812ccbbb4196adb0014fe4e55c788b9f43462", func := "quickset/quicksetlaw01.SipMasks", spec := "sipMasks", apart := false, narrowed := true }
def SipMasksUptoSaid : Prop := sipMasksUptoRow.holds Try.pinned (OpenSpec.upto sipMasksSpec)

/-- 'quicksetlaw01.SipHashes', WHERE WHAT IT READS IS OF BULK AT MOST 1048576: true; the input reads as it did. -/
def sipHashesUptoRow : OpenClaim := { program := "ytopfmibnabkbiaa", sum := "b46e7cc0921a8dfc7b635ec98aa812ccbbb4196adb0014fe4e55c788b9f43462", func := "quickset/quicksetlaw01.SipHashes", spec := "sipHashes", apart := false, narrowed := true }
def SipHashesUptoSaid : Prop := sipHashesUptoRow.holds Try.pinned (OpenSpec.upto sipHashesSpec)

end Rows
end Go.Proofs.Ytopfmibnabkbiaa
