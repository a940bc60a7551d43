/-
  The walks of the set's plain functions.
-/
import Derived.Test.YtgedhcfbjbmniaaDoorPlain
import Derived.Shelf.Spec.TrailingZeros
import Derived.Laws.BitsAllLaws
namespace Go.Proofs.YtgedhcfbjbmniaaDoor
open Go.RowKit
set_option linter.unusedVariables false

theorem right_any (i : Int) (w : World) : Calls Tryd.prog 21 #[.int .i64 i] w fun e w' => e = .returned (.bool (decide (0 ≤ i) && decide (i < 32))) ∧ w = w' := by
  by_cases h0 : 0 ≤ i
  · by_cases h1 : i < 32
    · go_enter Tryd.func21, Tryd.ntmps21
      go_wp2
      all_goals go_ret
      all_goals exact ⟨ret_bool (by simp [h0, h1]), rfl⟩
    · go_enter Tryd.func21, Tryd.ntmps21
      go_wp2
      all_goals go_ret
      all_goals exact ⟨ret_bool (by simp; omega), rfl⟩
  · go_enter Tryd.func21, Tryd.ntmps21
    go_wp2
    all_goals go_ret
    all_goals exact ⟨ret_bool (by simp; omega), rfl⟩

theorem pow_int (i : Nat) (hi : i < 32) : (2 : Int) ^ i % 4294967296 = ((2 ^ i : Nat) : Int) ∧ 2 ^ i < 4294967296 := by
  have h1 : 2 ^ i ≤ 2 ^ 31 := Nat.pow_le_pow_right (by decide) (by omega)
  have h3 : (2 : Nat) ^ 31 = 2147483648 := by decide
  have e : ((2 : Int) ^ i) = ((2 ^ i : Nat) : Int) := by rw [Int.natCast_pow]; rfl
  rw [e]
  generalize (2 : Nat) ^ i = p at *
  omega
theorem cast_shr (x i : Nat) : (x : Int) / 2 ^ i = ((x / 2 ^ i : Nat) : Int) := by
  rw [Int.natCast_ediv, Int.natCast_pow]; rfl
theorem bit_int (x i : Nat) (hx : x < 4294967296) : (bits .and .u32 ((x : Int) / 2 ^ i) 1 == 1) = x.testBit i := by
  have h := Go.u32_and_nat (x / 2 ^ i) 1 (Nat.lt_of_le_of_lt (Nat.div_le_self _ _) hx) (by decide)
  rw [cast_shr, show (1 : Int) = ((1 : Nat) : Int) by rfl, h, Nat.and_one_is_mod, bit_eq]
  have := Nat.mod_lt (x / 2 ^ i) (by decide : 0 < 2)
  generalize x / 2 ^ i % 2 = r at *
  match r with
  | 0 => rfl
  | 1 => rfl
  | r + 2 => omega

theorem has_in (x i : Nat) (w : World) (hx : x < 4294967296) (hi : i < 32) : Calls Tryd.prog 10 #[.int .u32 x, .int .i64 i] w fun e w' => e = .returned (.bool (x.testBit i)) ∧ w = w' := by
  go_enter Tryd.func10, Tryd.ntmps10
  go_wp2_with fail
  refine (right_any _ _).mono ?_
  rintro e w' ⟨rfl, rfl⟩
  have hb : (decide ((0 : Int) ≤ (i : Int)) && decide ((i : Int) < 32)) = true := by simp; omega
  rw [hb]
  go_wp2_with fail
  all_goals go_ret
  all_goals exact ⟨ret_bool (bit_int x i hx), rfl⟩
theorem has_out (x : Nat) (i : Int) (w : World) (hi : i < 0 ∨ 32 ≤ i) : Calls Tryd.prog 10 #[.int .u32 x, .int .i64 i] w fun e w' => e = .returned (.bool false) ∧ w = w' := by
  go_enter Tryd.func10, Tryd.ntmps10
  go_wp2_with fail
  refine (right_any _ _).mono ?_
  rintro e w' ⟨rfl, rfl⟩
  have hb : (decide ((0 : Int) ≤ i) && decide (i < 32)) = false := by rw [Bool.and_eq_false_iff]; simp; omega
  rw [hb]
  go_wp2_with fail
  all_goals go_ret
  all_goals exact ⟨rfl, rfl⟩
theorem with_in (x i : Nat) (w : World) (hx : x < 4294967296) (hi : i < 32) : Calls Tryd.prog 8 #[.int .u32 x, .int .i64 i] w fun e w' => e = .returned (.int .u32 ((x ||| 2 ^ i : Nat) : Int)) ∧ w = w' := by
  go_enter Tryd.func8, Tryd.ntmps8
  go_wp2_with fail
  refine (right_any _ _).mono ?_
  rintro e w' ⟨rfl, rfl⟩
  have hb : (decide ((0 : Int) ≤ (i : Int)) && decide ((i : Int) < 32)) = true := by simp; omega
  rw [hb]
  go_wp2_with fail
  all_goals go_ret
  all_goals refine ⟨ret_int ?_, rfl⟩
  all_goals rw [(pow_int i hi).1, Go.u32_or_nat _ _ hx (pow_int i hi).2]
theorem with_out (x : Nat) (i : Int) (w : World) (hi : i < 0 ∨ 32 ≤ i) : Calls Tryd.prog 8 #[.int .u32 x, .int .i64 i] w fun e w' => e = .returned (.int .u32 x) ∧ w = w' := by
  go_enter Tryd.func8, Tryd.ntmps8
  go_wp2_with fail
  refine (right_any _ _).mono ?_
  rintro e w' ⟨rfl, rfl⟩
  have hb : (decide ((0 : Int) ≤ i) && decide (i < 32)) = false := by rw [Bool.and_eq_false_iff]; simp; omega
  rw [hb]
  go_wp2_with fail
  all_goals go_ret
  all_goals exact ⟨rfl, rfl⟩
/-- without i -/
def cut (x i : Nat) : Nat := x &&& (4294967295 - 2 ^ i)
theorem without_in (x i : Nat) (w : World) (hx : x < 4294967296) (hi : i < 32) : Calls Tryd.prog 9 #[.int .u32 x, .int .i64 i] w fun e w' => e = .returned (.int .u32 (cut x i : Nat)) ∧ w = w' := by
  go_enter Tryd.func9, Tryd.ntmps9
  go_wp2_with fail
  refine (right_any _ _).mono ?_
  rintro e w' ⟨rfl, rfl⟩
  have hb : (decide ((0 : Int) ≤ (i : Int)) && decide ((i : Int) < 32)) = true := by simp; omega
  rw [hb]
  go_wp2_with fail
  all_goals go_ret
  all_goals refine ⟨ret_int ?_, rfl⟩
  all_goals rw [(pow_int i hi).1, Go.u32_andNot_nat _ _ hx (pow_int i hi).2]; rfl
theorem without_out (x : Nat) (i : Int) (w : World) (hi : i < 0 ∨ 32 ≤ i) : Calls Tryd.prog 9 #[.int .u32 x, .int .i64 i] w fun e w' => e = .returned (.int .u32 x) ∧ w = w' := by
  go_enter Tryd.func9, Tryd.ntmps9
  go_wp2_with fail
  refine (right_any _ _).mono ?_
  rintro e w' ⟨rfl, rfl⟩
  have hb : (decide ((0 : Int) ≤ i) && decide (i < 32)) = false := by rw [Bool.and_eq_false_iff]; simp; omega
  rw [hb]
  go_wp2_with fail
  all_goals go_ret
  all_goals exact ⟨rfl, rfl⟩
theorem tz_core (x k idx : Nat) (w : World) (hz : ((x : Int) == 0) = false)
    (key : bits BinOp.and IntKind.u32 (x : Int) (-(x : Int) % 4294967296) * 125613361 % 4294967296 / 134217728 = (idx : Int))
    (hi : idx < 32) (hk : k < 32) (hcell : w.cell? ⟨0, idx, none⟩ = some (.int .u8 k)) :
    Calls Tryd.prog 22 #[.int .u32 x] w fun e w' => e = .returned (.int .i64 k) ∧ w = w' := by
  go_enter Tryd.func22, Tryd.ntmps22
  go_wp2_with (simp only [key])
  all_goals go_ret
  all_goals exact ⟨rfl, rfl⟩
theorem tz_any (x : Nat) (w : World) (hx : x < 4294967296) (h0 : x ≠ 0) (hT : TabAt 0 Lib.deBruijn32tab w) : Calls Tryd.prog 22 #[.int .u32 x] w fun e w' => e = .returned (.int .i64 (Lib.ctz 32 x : Nat)) ∧ w = w' := by
  obtain ⟨hlow, hk⟩ := Lib.lowest_bit 32 x h0 hx
  obtain ⟨hi, htab⟩ := Lib.deBruijn32_at _ hk
  have hcell := hT _ hi
  rw [htab] at hcell
  exact tz_core x _ _ w (by simp; omega) (tz32_key x _ hx h0 hlow) hi hk hcell
end Go.Proofs.YtgedhcfbjbmniaaDoor
