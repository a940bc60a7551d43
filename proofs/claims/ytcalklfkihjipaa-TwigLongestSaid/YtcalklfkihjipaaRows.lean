/-
  No cell of these rows narrows 'for every input' (looked for: loops, veiled, ifaces, maps, wideKeys, modest, calm, conditions, laid).
  DERIVED. THE GIVEN ROWS OF THIS SEAT. 5 by the template 'for every input the law returns true; each argument reads behind the call as it read before'; 0 by the template 'total and deterministic' (their statements: YtcalklfkihjipaaTotals.lean).
  GIVEN WITH THE SEED: the statements are not yours to turn. If you find one false, say at which input.
  Laid BY PROGRAM, IN A SANDBOX (cutbox-rows.mjs): the forced cells as the released guide's own fill.sh prints them over the translation 065fa8e3959ee32f… (all of the seat's roots in one cut). By AI agents, Wed Nov 11 2026. No macro, syntax, notation, axiom, sorry.
-/
import Derived.Test.YtcalklfkihjipaaChecked
import GoSem.Claim
import GoSem.ClaimJoined
import GoSem.ClaimMapViews
import Derived.JoinedTies
import Derived.KernelRfl
namespace Go.Proofs.Ytcalklfkihjipaa
/- THE CELL 'sum', in the pinned program and in every row, IS THE sha256 OF THE DUMP (.gsa) THAT YtcalklfkihjipaaProg.lean LOADS. Nothing in Lean hashes anything: it is a label: what it is worth is what the hold of that sum in a sandbox is worth. -/
noncomputable def Try.pinned : Pinned := { name := "ytcalklfkihjipaa", sum := "065fa8e3959ee32f5df826be3213b492abffc4364b6b0051d6c7b3cfcd8a8b9e", checked := Try.checked }
namespace Rows
def none {H : Type} : Left H := { results := [], args := [] }

/-- 'quicksetlaw10.TwigAbove': WHATEVER THE INPUT: true; the input reads as it did. -/
def twigAboveSpec : ChangeSpec := { name := "twigAbove", fn := fun _ => fun
  | [d1, d2, d3] => { results := [.lit (.bool true)], args := [d1, d2, d3] }
  | _ => none }
def twigAboveRow : OpenClaim := { program := "ytcalklfkihjipaa", sum := "065fa8e3959ee32f5df826be3213b492abffc4364b6b0051d6c7b3cfcd8a8b9e", func := "quickset/quicksetlaw10.TwigAbove", spec := "twigAbove", recurses := true, apart := false }
def TwigAboveSaid : Prop := twigAboveRow.holds Try.pinned (OpenSpec.ofChange twigAboveSpec)

/-- ITS FALSE NEIGHBOUR: 'it returns false'. Refute it at one input. -/
def twigAboveWrong : ChangeSpec := { name := "twigAbove", fn := fun _ => fun
  | [d1, d2, d3] => { results := [.lit (.bool false)], args := [d1, d2, d3] }
  | _ => none }
def TwigAboveWrongFalsely : Prop := twigAboveRow.holds Try.pinned (OpenSpec.ofChange twigAboveWrong)

/-- 'quicksetlaw10.TwigBetween': WHATEVER THE INPUT: true; the input reads as it did. -/
def twigBetweenSpec : ChangeSpec := { name := "twigBetween", fn := fun _ => fun
  | [d1, d2, d3] => { results := [.lit (.bool true)], args := [d1, d2, d3] }
  | _ => none }
def twigBetweenRow : OpenClaim := { program := "ytcalklfkihjipaa", sum := "065fa8e3959ee32f5df826be3213b492abffc4364b6b0051d6c7b3cfcd8a8b9e", func := "quickset/quicksetlaw10.TwigBetween", spec := "twigBetween", apart := false }
def TwigBetweenSaid : Prop := twigBetweenRow.holds Try.pinned (OpenSpec.ofChange twigBetweenSpec)

/-- ITS FALSE NEIGHBOUR: 'it returns false'. Refute it at one input. -/
def twigBetweenWrong : ChangeSpec := { name := "twigBetween", fn := fun _ => fun
  | [d1, d2, d3] => { results := [.lit (.bool false)], args := [d1, d2, d3] }
  | _ => none }
def TwigBetweenWrongFalsely : Prop := twigBetweenRow.holds Try.pinned (OpenSpec.ofChange twigBetweenWrong)

/-- 'quicksetlaw10.TwigOrders': WHATEVER THE INPUT: true; the input reads as it did. -/
def twigOrdersSpec : ChangeSpec := { name := "twigOrders", fn := fun _ => fun
  | [d1, d2, d3] => { results := [.lit (.bool true)], args := [d1, d2, d3] }
  | _ => none }
def twigOrdersRow : OpenClaim := { program := "ytcalklfkihjipaa", sum := "065fa8e3959ee32f5df826be3213b492abffc4364b6b0051d6c7b3cfcd8a8b9e", func := "quickset/quicksetlaw10.TwigOrders", spec := "twigOrders", apart := false }
def TwigOrdersSaid : Prop := twigOrdersRow.holds Try.pinned (OpenSpec.ofChange twigOrdersSpec)

/-- ITS FALSE NEIGHBOUR: 'it returns false'. Refute it at one input. -/
def twigOrdersWrong : ChangeSpec := { name := "twigOrders", fn := fun _ => fun
  | [d1, d2, d3] => { results := [.lit (.bool false)], args := [d1, d2, d3] }
  | _ => none }
def TwigOrdersWrongFalsely : Prop := twigOrdersRow.holds Try.pinned (OpenSpec.ofChange twigOrdersWrong)

/-- 'quicksetlaw10.TwigCommon': WHATEVER THE INPUT: true; the input reads as it did. -/
def twigCommonSpec : ChangeSpec := { name := "twigCommon", fn := fun _ => fun
  | [d1, d2] => { results := [.lit (.bool true)], args := [d1, d2] }
  | _ => none }
def twigCommonRow : OpenClaim := { program := "ytcalklfkihjipaa", sum := "065fa8e3959ee32f5df826be3213b492abffc4364b6b0051d6c7b3cfcd8a8b9e", func := "quickset/quicksetlaw10.TwigCommon", spec := "twigCommon", apart := false }
def TwigCommonSaid : Prop := twigCommonRow.holds Try.pinned (OpenSpec.ofChange twigCommonSpec)

/-- ITS FALSE NEIGHBOUR: 'it returns false'. Refute it at one input. -/
def twigCommonWrong : ChangeSpec := { name := "twigCommon", fn := fun _ => fun
  | [d1, d2] => { results := [.lit (.bool false)], args := [d1, d2] }
  | _ => none }
def TwigCommonWrongFalsely : Prop := twigCommonRow.holds Try.pinned (OpenSpec.ofChange twigCommonWrong)

/-- 'quicksetlaw10.TwigLongest': WHATEVER THE INPUT: true; the input reads as it did. -/
def twigLongestSpec : ChangeSpec := { name := "twigLongest", fn := fun _ => fun
  | [d1, d2] => { results := [.lit (.bool true)], args := [d1, d2] }
  | _ => none }
def twigLongestRow : OpenClaim := { program := "ytcalklfkihjipaa", sum := "065fa8e3959ee32f5df826be3213b492abffc4364b6b0051d6c7b3cfcd8a8b9e", func := "quickset/quicksetlaw10.TwigLongest", spec := "twigLongest", apart := false }
def TwigLongestSaid : Prop := twigLongestRow.holds Try.pinned (OpenSpec.ofChange twigLongestSpec)

/-- ITS FALSE NEIGHBOUR: 'it returns false'. Refute it at one input. -/
def twigLongestWrong : ChangeSpec := { name := "twigLongest", fn := fun _ => fun
  | [d1, d2] => { results := [.lit (.bool false)], args := [d1, d2] }
  | _ => none }
def TwigLongestWrongFalsely : Prop := twigLongestRow.holds Try.pinned (OpenSpec.ofChange twigLongestWrong)

/- THE SECOND FORM. 'bulk': how many values and letters a reading holds, each counted each time it is reached (what is shared counts as often as it is met; a slice's spare places count too). A statement '..UptoSaid' is the law's where the arguments, and the package variables that the reading takes, are together of bulk at most 1048576: NARROWER than '..Said'. Prove '..Said' where nothing that the law and all that it calls make is longer than what came in: it says more and counts as full. Else prove '..UptoSaid'. A law counts once. -/
mutual
def uptoBulk {H : Type} : DataW H → Nat
  | .lit (.string bytes) => bytes.length + 1
  | .lit _ => 1
  | .nil => 1
  | .ptr d => uptoBulk d + 1
  | .slice elems spare => uptoBulkAll elems + uptoBulkAll spare + 1
  | .agg parts => uptoBulkAll parts + 1
  | .iface _ d => uptoBulk d + 1
  | .map entries => uptoBulkEntries entries + 1
  | .held _ => 1
def uptoBulkAll {H : Type} : List (DataW H) → Nat
  | [] => 0
  | d :: r => uptoBulk d + uptoBulkAll r
def uptoBulkEntries {H : Type} : List (Lit × DataW H) → Nat
  | [] => 0
  | x :: r => uptoBulkEntry x + uptoBulkEntries r
def uptoBulkEntry {H : Type} : Lit × DataW H → Nat
  | (.string bytes, d) => bytes.length + uptoBulk d + 1
  | (_, d) => uptoBulk d + 1
 end
def uptoSmall : (H : Type) → List (DataW H) → Bool := fun _ ds => decide (uptoBulkAll ds ≤ 1048576)
def OpenSpec.upto (s : _root_.Go.ChangeSpec) : _root_.Go.OpenSpec := { _root_.Go.OpenSpec.ofChange s with cond := some uptoSmall }

/-- 'quicksetlaw10.TwigAbove', WHERE WHAT IT READS IS OF BULK AT MOST 1048576: true; the input reads as it did. -/
def twigAboveUptoRow : OpenClaim := { program := "ytcalklfkihjipaa", sum := "065fa8e3959ee32f5df826be3213b492abffc4364b6b0051d6c7b3cfcd8a8b9e", func := "quickset/quicksetlaw10.TwigAbove", spec := "twigAbove", recurses := true, apart := false, narrowed := true }
def TwigAboveUptoSaid : Prop := twigAboveUptoRow.holds Try.pinned (OpenSpec.upto twigAboveSpec)

/-- 'quicksetlaw10.TwigBetween', WHERE WHAT IT READS IS OF BULK AT MOST 1048576: true; the input reads as it did. -/
def twigBetweenUptoRow : OpenClaim := { program := "ytcalklfkihjipaa", sum := "065fa8e3959ee32f5df826be3213b492abffc4364b6b0051d6c7b3cfcd8a8b9e", func := "quickset/quicksetlaw10.TwigBetween", spec := "twigBetween", apart := false, narrowed := true }
def TwigBetweenUptoSaid : Prop := twigBetweenUptoRow.holds Try.pinned (OpenSpec.upto twigBetweenSpec)

/-- 'quicksetlaw10.TwigOrders', WHERE WHAT IT READS IS OF BULK AT MOST 1048576: true; the input reads as it did. -/
def twigOrdersUptoRow : OpenClaim := { program := "ytcalklfkihjipaa", sum := "065fa8e3959ee32f5df826be3213b492abffc4364b6b0051d6c7b3cfcd8a8b9e", func := "quickset/quicksetlaw10.TwigOrders", spec := "twigOrders", apart := false, narrowed := true }
def TwigOrdersUptoSaid : Prop := twigOrdersUptoRow.holds Try.pinned (OpenSpec.upto twigOrdersSpec)

/-- 'quicksetlaw10.TwigCommon', WHERE WHAT IT READS IS OF BULK AT MOST 1048576: true; the input reads as it did. -/
def twigCommonUptoRow : OpenClaim := { program := "ytcalklfkihjipaa", sum := "065fa8e3959ee32f5df826be3213b492abffc4364b6b0051d6c7b3cfcd8a8b9e", func := "quickset/quicksetlaw10.TwigCommon", spec := "twigCommon", apart := false, narrowed := true }
def TwigCommonUptoSaid : Prop := twigCommonUptoRow.holds Try.pinned (OpenSpec.upto twigCommonSpec)

/-- 'quicksetlaw10.TwigLongest', WHERE WHAT IT READS IS OF BULK AT MOST 1048576: true; the input reads as it did. -/
def twigLongestUptoRow : OpenClaim := { program := "ytcalklfkihjipaa", sum := "065fa8e3959ee32f5df826be3213b492abffc4364b6b0051d6c7b3cfcd8a8b9e", func := "quickset/quicksetlaw10.TwigLongest", spec := "twigLongest", apart := false, narrowed := true }
def TwigLongestUptoSaid : Prop := twigLongestUptoRow.holds Try.pinned (OpenSpec.upto twigLongestSpec)

end Rows
end Go.Proofs.Ytcalklfkihjipaa
