/-
  The walks of the document's List, Of, Rank; of Nth; of slices.Index, Contains, Equal over numbers.
-/
import Derived.Test.YtgedhcfbjbmniaaDoorBase
import Derived.Laws.AppendOwn
import Derived.Laws.OwnMore
namespace Go.Proofs.YtgedhcfbjbmniaaDoor
open Go.RowKit
set_option linter.unusedVariables false

def num (n : Nat) : Value := .int .i64 n
theorem Tryd.info3 : (Tryd.prog.info? 3).map (fun i => (i.zero, i.size, i.bytes)) = some (some (.int .i64 0), 1, 8) := by kernel_rfl

theorem low_le (x j : Nat) : (low x j).length ≤ j := by rw [low_len]; exact ones_le j x

set_option maxRecDepth 100000 in
set_option maxHeartbeats 1000000 in
/-- the document's List -/
theorem list_any (x : Nat) (w : World) (hx : x < 4294967296) :
    Calls Tryd.prog 7 #[.int .u32 x] w fun e w' => ∃ v, e = .returned v ∧ w'.ownsRow w.heap.size 3 1 v (low x 32).length ((low x 32).map num) ∧ Below w.heap.size w w' := by
  obtain ⟨i0, hi, hz0, hz1, hz2⟩ := info_parts Tryd.info3
  go_enter Tryd.func7, Tryd.ntmps7
  go_wp2_with fail
  go_loopw [0, 3, 4] (fun a v i wr => ∃ (j y : Nat), a = .int .u32 y ∧ i = .int .i64 j ∧ j ≤ 32 ∧ y < 4294967296 ∧ Hid (y = x / 2 ^ j) ∧ wr.ownsRow w.heap.size 3 1 v (low x j).length ((low x j).map num) ∧ Below w.heap.size w wr) (fun _ _ i _ => 32 - (intOf i).toNat)
  case atStart => exact ⟨0, x, rfl, rfl, by omega, hx, Lib.hid (by simp), by simpa [low] using World.ownsRow_nil w w.heap.size 3 1, Below.refl _ _⟩
  case round =>
    obtain ⟨j, y, rfl, rfl, hj, hy, HY, hown, hb⟩ := hrel
    have HO := Lib.hid hown
    have HB := Lib.hid hb
    clear hown hb
    have hdiv : x / 2 ^ (j + 1) = y / 2 := by rw [HY.out, Nat.pow_succ, Nat.div_div_eq_div_mul]
    by_cases hlt : j < 32
    · have hbit : x.testBit j = (y % 2 == 1) := by rw [bit_eq, ← HY.out]
      by_cases h1 : y % 2 = 1
      · have b1 : ((y : Int) % 2 == 1) = true := by rw [beq_iff_eq]; omega
        have hl : low x (j + 1) = low x j ++ [j] := by rw [low_succ, hbit, h1]; rfl
        have hle := low_le x j
        have hZ : w.heap.size ≤ (wr.alloc (.cells #[.int .i64 (j : Int)] 3)).heap.size := by have := HB.out.size; simp; omega
        have hnw := cell_one_new wr (.int .i64 (j : Int)) 3
        have h1c : ∀ u ∈ [Value.int .i64 (j : Int)], u.oneCell' = true := by intro u hu; simp at hu; subst hu; rfl
        have hmx : (low x j).length + 1 ≤ maxLen := by unfold maxLen; omega
        have HL := Lib.hid hl
        clear hl h1 hbit
        go_wp2_with (at_builtin; refine wpList_append_own _ rfl _ _ 25 rfl w.heap.size 3 i0 (.int .i64 0) 1 8 Tryd.underlying25 hi hz0 hz1 hz2 rfl (by decide) _ _ _ rfl (HO.out.alloc _) ⟨wr.heap.size, 0, none⟩ 1 1 [.int .i64 (j : Int)] rfl rfl hnw h1c hmx (by omega) hZ ?_)
        intro v' wb hown' hgrow _
        have HO2 : Hid (wb.ownsRow w.heap.size 3 1 v' (low x (j + 1)).length ((low x (j + 1)).map num)) := Lib.hid (by rw [HL.out]; simpa [num] using hown')
        have HB2 : Hid (Below w.heap.size w wb) := Lib.hid (Below.grown (HB.out.alloc HB.out.size _) hgrow (by have := HB.out.size; simp; omega) (fun g hg => (HO.out.lt g hg).1))
        clear hown' hgrow HO HB hZ hnw h1c hmx
        go_wp2_with fail
        go_roundw
        case rel => exact ⟨j + 1, y / 2, by simp, by go_num, by omega, by omega, Lib.hid hdiv.symm, HO2.out, HB2.out⟩
        case measure => simp [intOf]; omega
      · have b1 : ((y : Int) % 2 == 1) = false := by rw [beq_eq_false_iff_ne]; omega
        have hl : low x (j + 1) = low x j := by
          rw [low_succ, hbit, show (y % 2 == 1) = false by rw [beq_eq_false_iff_ne]; exact h1]; simp
        have HL := Lib.hid hl
        clear hl h1 hbit
        go_wp2_with fail
        go_roundw
        case rel => exact ⟨j + 1, y / 2, by simp, by go_num, by omega, by omega, Lib.hid hdiv.symm, by rw [HL.out]; exact HO.out, HB.out⟩
        case measure => simp [intOf]; omega
    · obtain rfl : j = 32 := by omega
      go_wp2_with fail
      all_goals go_ret
      all_goals exact ⟨_, rfl, HO.out, HB.out⟩

/-- a slice of the call's own, written out -/
theorem own_open {B : Nat} {v : Value} {L : List Nat} {w : World} (h : w.ownsRow B 3 1 v L.length (L.map num)) :
    ∃ (a : Option Addr) (cap : Nat), v = .slice a L.length cap ∧ (0 < L.length → ∃ g, a = some ⟨g, 0, none⟩ ∧ ∀ j (hj : j < L.length), w.cell? ⟨g, j, none⟩ = some (.int .i64 ((L[j]'hj : Nat) : Int))) := by
  rcases h.2 with ⟨rfl, h0⟩ | ⟨g, cap, cur, rfl, rest⟩
  · exact ⟨none, 0, by rw [h0], fun h => absurd h (by omega)⟩
  · refine ⟨_, _, rfl, fun _ => ⟨g, rfl, fun j hj => ?_⟩⟩
    rw [h.cellAt j (by omega), List.getElem?_map, List.getElem?_eq_getElem hj]; rfl
end Go.Proofs.YtgedhcfbjbmniaaDoor
