/-
  A slice of bytes that came in: its cells.
-/
import Derived.Test.YtppakcijcjgoiaaFull
import Derived.SliceStrings
import Derived.ChangeSlices
namespace Go.Proofs.Ytppakcijcjgoiaa
open Go.RowKit Go.WideShapes Go.ChangeShapes Go.ChangeShapes
set_option linter.unusedVariables false

theorem open_u8s {H : Type} {enc : TypeId × Value → H} {P : Program} {w : World} {base : Nat} {spare : Nat → Bool} {held : Bool} {t e : TypeId} {fuel : Nat} {cs : List Value} {x : DataW H × List MemPlace} (ht : P.underlying t = some (.slice e)) (he : P.underlying e = some (.int .u8)) (hc : P.cellsOf e = 1)
    (h : DataW.trod enc P w base spare held fuel t cs = some x) :
    cs = [.slice none 0 0] ∨ ∃ (a : Addr) (len cap : Nat), cs = [.slice (some a) len cap] ∧ ∀ i, i < len → ∃ z : Int, w.cell? (a.add i) = some (.int .u8 z) ∧ (Lit.int .u8 z).wf = true := by
  rcases DataW.trod_slice ht h with h0 | ⟨a, len, cap, elems, rest, n, _, rfl, rfl, hb, hl, hm, hlen, hel, hsp, hns⟩
  · exact Or.inl h0.1
  right
  refine ⟨a, len, cap, rfl, fun i hi => ?_⟩
  have hE := hel i hi
  have hlt : i < elems.length := by omega
  rw [hc, Nat.mul_one, List.getElem?_eq_getElem hlt, Option.bind_eq_some_iff] at hE
  obtain ⟨cs', hcs, hy'⟩ := hE
  obtain ⟨z, ez, _, hw⟩ := DataW.trod_int he hy'
  subst ez
  exact ⟨z, cell_of_cells?_one hcs, hw⟩
end Go.Proofs.Ytppakcijcjgoiaa
