/-
  The walks of Nth, At, and the document's example.
-/
import Derived.Test.YtgedhcfbjbmniaaDoorFns
namespace Go.Proofs.YtgedhcfbjbmniaaDoor
open Go.RowKit
set_option linter.unusedVariables false

abbrev Tab (w : World) : Prop := TabAt 0 Lib.deBruijn32tab w

set_option maxRecDepth 100000 in
theorem nth_out (x : Nat) (k : Int) (w : World) (hx : x < 4294967296) (hk : k < 0 ∨ ((low x 32).length : Int) ≤ k) :
    Calls Tryd.prog 12 #[.int .u32 x, .int .i64 k] w fun e w' => e = .returned (.tuple #[.int .i64 0, .bool false]) ∧ ∃ n, w' = w.drewN n := by
  rw [low_len] at hk
  by_cases h0 : k < 0
  · go_enter Tryd.func12, Tryd.ntmps12
    go_wp2_with fail
    all_goals go_ret2
    all_goals exact ⟨rfl, 0, rfl⟩
  · have h1 : ((ones 32 x : Nat) : Int) ≤ k := by omega
    go_enter Tryd.func12, Tryd.ntmps12
    go_wp2_with fail
    refine (count_any x _ hx).mono ?_
    rintro e w' ⟨rfl, n, rfl⟩
    go_wp2_with fail
    all_goals go_ret2
    all_goals exact ⟨rfl, n, rfl⟩

theorem clear_int (z : Nat) (hz : z < 4294967296) (h0 : z ≠ 0) : bits .and .u32 (z : Int) ((z : Int) - 1) = ((z &&& (z - 1) : Nat) : Int) := by
  have e : (z : Int) - 1 = ((z - 1 : Nat) : Int) := by omega
  rw [e, Go.u32_and_nat z (z - 1) hz (by omega)]

set_option maxRecDepth 100000 in
theorem nth_in (x k : Nat) (w : World) (hx : x < 4294967296) (hT : Tab w) (hk : k < (low x 32).length) :
    Calls Tryd.prog 12 #[.int .u32 x, .int .i64 k] w fun e w' => e = .returned (.tuple #[.int .i64 (((low x 32)[k]'hk : Nat) : Int), .bool true]) ∧ ∃ n, w' = w.drewN n := by
  have hk2 : k < ones 32 x := by rw [← low_len]; exact hk
  have ho := ones_le 32 x
  have HK := Lib.hid hk
  have HT := Lib.hid hT
  clear hT
  go_enter Tryd.func12, Tryd.ntmps12
  go_wp2_with fail
  refine (count_any x _ hx).mono ?_
  rintro e w' ⟨rfl, n, rfl⟩
  have HT2 : Hid (Tab (w.drewN n)) := HT
  obtain ⟨wq, hwq⟩ : ∃ wq, w.drewN n = wq := ⟨_, rfl⟩
  rw [hwq] at HT2 ⊢
  generalize hones : ones 32 x = o at *
  have HO := Lib.hid hones
  clear hones
  go_wp2_with fail
  go_loop [0, 15] (fun b t => ∃ j z : Nat, b = .int .u32 z ∧ t = .int .i64 j ∧ j ≤ k ∧ z < 4294967296 ∧ Hid (z = clears x j)) (fun _ t => k - (intOf t).toNat)
  case atStart => exact ⟨0, x, rfl, rfl, by omega, hx, Lib.hid rfl⟩
  case round =>
    obtain ⟨j, z, rfl, rfl, hj, hz, HZ⟩ := hrel
    have hz0 : z ≠ 0 := by
      rw [HZ.out]
      exact (clears_least x hx j (by have := HK.out; omega)).1
    by_cases hlt : j < k
    · have hcl := clear_int z hz hz0
      have hle : z &&& (z - 1) ≤ z := clear_lt z
      have HC := Lib.hid (show z &&& (z - 1) = clears x (j + 1) by rw [HZ.out]; rfl)
      generalize z &&& (z - 1) = z2 at *
      have hm1 : ((z : Int) - 1) % 4294967296 = (z : Int) - 1 := by omega
      go_wp2_with fail
      go_round
      case rel => exact ⟨j + 1, z2, by simp, by go_num, by omega, by omega, HC⟩
      case measure => simp [intOf]; omega
    · obtain rfl : j = k := by omega
      have HV := Lib.hid (show Lib.ctz 32 z = (low x 32)[j]'HK.out by rw [HZ.out]; exact (clears_least x hx j HK.out).2)
      go_wp2_with fail
      refine (tz_any z _ hz hz0 HT2.out).mono ?_
      rintro e w' ⟨rfl, rfl⟩
      rw [HV.out]
      go_wp2_with fail
      all_goals go_ret2
      all_goals exact ⟨rfl, n, hwq.symm⟩

/-! the document's example -/
theorem awake_any (w : World) : Calls Tryd.prog 6 #[] w fun e w' => e = .returned (.bool true) ∧ ∃ n, w' = w.drewN n := by
  have h2 : rk 516 9 = 1 := by decide +kernel
  have hat : Calls Tryd.prog 20 #[.int .u64 1000, .int .i64 1] w fun e w' => e = .returned (.int .i64 31) ∧ w = w' := by
    have hb : bits .and .u64 31 31 = 31 := by decide +kernel
    go_enter Tryd.func20, Tryd.ntmps20
    go_wp2
    all_goals go_ret
    all_goals exact ⟨rfl, rfl⟩
  have H2 := Lib.hid h2
  have HA := Lib.hid hat
  clear h2 hat
  go_enter Tryd.func6, Tryd.ntmps6
  go_wp2_with fail
  refine HA.out.mono ?_
  rintro e w' ⟨rfl, rfl⟩
  go_wp2_with fail
  refine (rank_any 516 9 _ (by decide)).mono ?_
  rintro e w' ⟨rfl, n, rfl⟩
  rw [H2.out]
  go_wp2_with fail
  all_goals go_ret
  all_goals exact ⟨rfl, n, rfl⟩
end Go.Proofs.YtgedhcfbjbmniaaDoor
