/-
  The walks of OnesCount32 (by its text, a table of 256 counts), Count and Rank: how many of a number's 32 bits are set.
-/
import Derived.Test.YtgedhcfbjbmniaaDoorRows
import Derived.WalkKit
import Derived.WalkSpells
import Derived.WalkLawsBesides
import Derived.Deep.QuietTactic
import Derived.BigQuiet
import Derived.Lib.Hide
namespace Go.Proofs.YtgedhcfbjbmniaaDoor
open Go.RowKit
set_option linter.unusedVariables false

theorem ret_int {k : IntKind} {a b : Int} (h : a = b) : Ending.returned (.int k a) = .returned (.int k b) := by rw [h]
theorem ret_bool {a b : Bool} (h : a = b) : Ending.returned (.bool a) = .returned (.bool b) := by rw [h]
theorem below_drewN {B : Nat} {a w : World} (h : Below B a w) (n : Nat) : Below B a (w.drewN n) := ⟨h.os, h.tape, h.output, h.size, h.block⟩
theorem below_refl (w : World) : Below w.heap.size w w := Below.refl _ _

/-- how many of the lowest n bits are set -/
def ones : Nat → Nat → Nat
  | 0, _ => 0
  | n + 1, x => x % 2 + ones n (x / 2)

theorem ones_le (n x : Nat) : ones n x ≤ n := by
  induction n generalizing x with
  | zero => exact Nat.le_refl _
  | succ n ih => have := ih (x / 2); have := Nat.mod_lt x (by decide : 0 < 2); unfold ones; omega

theorem ones_add (a b x : Nat) : ones (a + b) x = ones a x + ones b (x / 2 ^ a) := by
  induction a generalizing x with
  | zero => simp [ones]
  | succ a ih =>
    rw [show a + 1 + b = (a + b) + 1 from by omega]
    simp only [ones]
    rw [ih, Nat.div_div_eq_div_mul, show 2 * 2 ^ a = 2 ^ (a + 1) from by rw [Nat.pow_succ, Nat.mul_comm]]
    omega

theorem ones_mod (a x : Nat) : ones a (x % 2 ^ a) = ones a x := by
  induction a generalizing x with
  | zero => rfl
  | succ a ih =>
    simp only [ones]
    have h1 : x % 2 ^ (a + 1) % 2 = x % 2 := Nat.mod_mod_of_dvd x ⟨2 ^ a, by rw [Nat.pow_succ, Nat.mul_comm]⟩
    have h2 : x % 2 ^ (a + 1) / 2 = x / 2 % 2 ^ a := by
      rw [Nat.pow_succ, Nat.mul_comm, Nat.mod_mul_right_div_self]
    rw [h1, h2, ih]

/-- by its four bytes -/
theorem ones_bytes (x : Nat) (hx : x < 4294967296) : ones 32 x = ones 8 (x / 16777216) + ones 8 (x / 65536 % 256) + ones 8 (x / 256 % 256) + ones 8 (x % 256) := by
  have e1 : ones 32 x = ones 8 x + ones 24 (x / 256) := ones_add 8 24 x
  have e2 : ones 24 (x / 256) = ones 8 (x / 256) + ones 16 (x / 65536) := by
    have := ones_add 8 16 (x / 256); rw [Nat.div_div_eq_div_mul] at this; exact this
  have e3 : ones 16 (x / 65536) = ones 8 (x / 65536) + ones 8 (x / 16777216) := by
    have := ones_add 8 8 (x / 65536); rw [Nat.div_div_eq_div_mul] at this; exact this
  have m1 : ones 8 (x % 256) = ones 8 x := ones_mod 8 x
  have m2 : ones 8 (x / 256 % 256) = ones 8 (x / 256) := ones_mod 8 (x / 256)
  have m3 : ones 8 (x / 65536 % 256) = ones 8 (x / 65536) := ones_mod 8 (x / 65536)
  rw [m1, m2, m3]
  omega

/-- the table's bytes -/
def popL : List UInt8 := (List.range 256).map fun i => UInt8.ofNat (ones 8 i)
def POP : ByteArray := ⟨popL.toArray⟩
theorem POP_size : POP.size = 256 := by decide +kernel
theorem POP_all : ∀ i : Fin 256, (POP[i.val]'(by rw [POP_size]; exact i.isLt)).toNat = ones 8 i.val := by decide +kernel
theorem POP_at (i : Nat) (h : i < POP.size) : (POP[i]'h).toNat = ones 8 i := POP_all ⟨i, by rw [POP_size] at h; exact h⟩
theorem hide_pop {a b c d : List UInt8} (h : (a.append b).append (c.append d) = popL) : (⟨((a.append b).append (c.append d)).toArray⟩ : ByteArray) = POP := by
  rw [h]; rfl

theorem pow_cast (i : Nat) (hi : i < 32) : ((2 : Int) ^ i - 1) % 4294967296 = ((2 ^ i - 1 : Nat) : Int) := by
  have h1 : 2 ^ i ≤ 2 ^ 31 := Nat.pow_le_pow_right (by decide) (by omega)
  have h2 : 0 < 2 ^ i := Nat.two_pow_pos i
  have e : ((2 : Int) ^ i) = ((2 ^ i : Nat) : Int) := by rw [Int.natCast_pow]; rfl
  rw [e]
  have h3 : (2 : Nat) ^ 31 = 2147483648 := by decide
  omega

theorem mask_low (x i : Nat) (hx : x < 4294967296) (hi : i < 32) : bits .and .u32 (x : Int) (((2 : Int) ^ i - 1) % 4294967296) = ((x % 2 ^ i : Nat) : Int) := by
  have h1 : 2 ^ i ≤ 2 ^ 31 := Nat.pow_le_pow_right (by decide) (by omega)
  have h3 : (2 : Nat) ^ 31 = 2147483648 := by decide
  rw [pow_cast i hi, u32_and_nat x (2 ^ i - 1) hx (by omega), Nat.and_two_pow_sub_one_eq_mod]

theorem ones_zero (n : Nat) : ones n 0 = 0 := by
  induction n with
  | zero => rfl
  | succ n ih => simp [ones, ih]

theorem ones_low (x i : Nat) (hi : i ≤ 32) : ones 32 (x % 2 ^ i) = ones i x := by
  have e := ones_add i (32 - i) (x % 2 ^ i)
  rw [show i + (32 - i) = 32 from by omega, Nat.div_eq_of_lt (Nat.mod_lt _ (Nat.two_pow_pos i)), ones_zero, ones_mod] at e
  omega

attribute [irreducible] ones

theorem and255 (x : Nat) (hx : x < 4294967296) : bits .and .u32 (x : Int) 255 = ((x % 256 : Nat) : Int) := by
  have e := u32_and_nat x 255 hx (by decide)
  have e2 : x &&& 255 = x % 256 := Nat.and_two_pow_sub_one_eq_mod x 8
  rw [e2] at e
  exact e

theorem pop_at (i : Int) (k : Nat) (hi : i = (k : Int)) (hk : k < 256) (w : World) :
    (Instr.index 9 (.string POP) (.int .u32 i)).run Tryd.prog w = .ok (.int .u8 ((ones 8 k : Nat) : Int)) w := by
  subst hi
  have h : (0 : Int) ≤ (k : Int) ∧ (k : Int) < (POP.size : Int) := by rw [POP_size]; omega
  have hb : k < POP.size := by rw [POP_size]; exact hk
  rw [run_index_string w 9 POP .u32 k Tryd.underlying9]
  rw [dif_pos h]
  simp only [Int.toNat_natCast]
  rw [POP_at k hb]

set_option maxHeartbeats 400000 in
set_option maxRecDepth 100000 in
theorem ones_any (x : Nat) (w : World) (hx : x < 4294967296) :
    Calls Tryd.prog 24 #[.int .u32 x] w fun e w' => e = .returned (.int .i64 (ones 32 x)) ∧ ∃ n, w' = w.drewN n := by
  have hz := POP_size
  have a2 : bits .and .u32 ((x : Int) / 65536) 255 = ((x / 65536 % 256 : Nat) : Int) := and255 (x / 65536) (by omega)
  have a3 : bits .and .u32 ((x : Int) / 256) 255 = ((x / 256 % 256 : Nat) : Int) := and255 (x / 256) (by omega)
  have a4 : bits .and .u32 (x : Int) 255 = ((x % 256 : Nat) : Int) := and255 x hx
  have b1 : x / 16777216 < 256 := by omega
  have b2 : x / 65536 % 256 < 256 := by omega
  have b3 : x / 256 % 256 < 256 := by omega
  have b4 : x % 256 < 256 := by omega
  have p1 : ∀ w, (Instr.index 9 (.string POP) (.int .u32 ((x : Int) / 16777216))).run Tryd.prog w = .ok (.int .u8 ((ones 8 (x / 16777216) : Nat) : Int)) w := fun w => pop_at _ _ (by omega) b1 w
  have p2 : ∀ w, (Instr.index 9 (.string POP) (.int .u32 ((x / 65536 % 256 : Nat) : Int))).run Tryd.prog w = .ok (.int .u8 ((ones 8 (x / 65536 % 256) : Nat) : Int)) w := fun w => pop_at _ _ rfl b2 w
  have p3 : ∀ w, (Instr.index 9 (.string POP) (.int .u32 ((x / 256 % 256 : Nat) : Int))).run Tryd.prog w = .ok (.int .u8 ((ones 8 (x / 256 % 256) : Nat) : Int)) w := fun w => pop_at _ _ rfl b3 w
  have p4 : ∀ w, (Instr.index 9 (.string POP) (.int .u32 ((x % 256 : Nat) : Int))).run Tryd.prog w = .ok (.int .u8 ((ones 8 (x % 256) : Nat) : Int)) w := fun w => pop_at _ _ rfl b4 w
  have HT := Lib.hid (ones_bytes x hx)
  have l1 := ones_le 8 (x / 16777216)
  have l2 := ones_le 8 (x / 65536 % 256)
  have l3 := ones_le 8 (x / 256 % 256)
  have l4 := ones_le 8 (x % 256)
  generalize ones 8 (x / 16777216) = o1 at *
  generalize ones 8 (x / 65536 % 256) = o2 at *
  generalize ones 8 (x / 256 % 256) = o3 at *
  generalize ones 8 (x % 256) = o4 at *
  generalize x / 65536 % 256 = i2 at *
  generalize x / 256 % 256 = i3 at *
  generalize x % 256 = i4 at *
  clear b1 b2 b3 b4
  go_enter Tryd.func24, Tryd.ntmps24
  rw [hide_pop (by decide +kernel)]
  go_wp2
  go_quiet (fail)
  go_wp2
  go_ret
  exact ⟨ret_int (by rw [HT.out]; simp), _, rfl⟩

set_option maxHeartbeats 400000 in
theorem count_any (x : Nat) (w : World) (hx : x < 4294967296) :
    Calls Tryd.prog 15 #[.int .u32 x] w fun e w' => e = .returned (.int .i64 (ones 32 x)) ∧ ∃ n, w' = w.drewN n := by
  go_enter Tryd.func15, Tryd.ntmps15
  go_wp2_with fail
  refine (ones_any x _ hx).mono ?_
  rintro e w' ⟨rfl, n, rfl⟩
  go_wp2
  go_ret
  exact ⟨rfl, _, rfl⟩

set_option maxHeartbeats 400000 in
theorem rank_mid (x i : Nat) (w : World) (hx : x < 4294967296) (h0 : 0 < i) (hi : i < 32) :
    Calls Tryd.prog 13 #[.int .u32 x, .int .i64 i] w fun e w' => e = .returned (.int .i64 (ones i x)) ∧ ∃ n, w' = w.drewN n := by
  have HO := Lib.hid (ones_low x i (by omega))
  have HM := Lib.hid (mask_low x i hx hi)
  have hlt : x % 2 ^ i < 4294967296 := Nat.lt_of_le_of_lt (Nat.mod_le _ _) hx
  generalize x % 2 ^ i = y at HO HM hlt
  go_enter Tryd.func13, Tryd.ntmps13
  go_wp2_with fail
  rw [HM.out]
  refine (count_any y _ hlt).mono ?_
  rintro e w' ⟨rfl, n, rfl⟩
  rw [HO.out]
  go_wp2
  go_ret
  exact ⟨rfl, _, rfl⟩

set_option maxHeartbeats 400000 in
theorem rank_low (x : Nat) (i : Int) (w : World) (hi : i ≤ 0) :
    Calls Tryd.prog 13 #[.int .u32 x, .int .i64 i] w fun e w' => e = .returned (.int .i64 0) ∧ w' = w := by
  go_enter Tryd.func13, Tryd.ntmps13
  go_wp2
  go_ret
  exact ⟨rfl, rfl⟩

set_option maxHeartbeats 400000 in
theorem rank_high (x : Nat) (i : Int) (w : World) (hx : x < 4294967296) (hi : 32 ≤ i) :
    Calls Tryd.prog 13 #[.int .u32 x, .int .i64 i] w fun e w' => e = .returned (.int .i64 (ones 32 x)) ∧ ∃ n, w' = w.drewN n := by
  have h0 : ¬ i ≤ 0 := by omega
  go_enter Tryd.func13, Tryd.ntmps13
  go_wp2_with fail
  refine (count_any x _ hx).mono ?_
  rintro e w' ⟨rfl, n, rfl⟩
  go_wp2
  go_ret
  exact ⟨rfl, _, rfl⟩

/-- how many of the set are less than i -/
def rk (x : Nat) (i : Int) : Nat := if i ≤ 0 then 0 else if 32 ≤ i then ones 32 x else ones i.toNat x

theorem rank_any (x : Nat) (i : Int) (w : World) (hx : x < 4294967296) :
    Calls Tryd.prog 13 #[.int .u32 x, .int .i64 i] w fun e w' => e = .returned (.int .i64 (rk x i)) ∧ ∃ n, w' = w.drewN n := by
  unfold rk
  by_cases h0 : i ≤ 0
  · rw [if_pos h0]; exact (rank_low x i w h0).mono fun e w' ⟨he, hw⟩ => ⟨he, 0, hw⟩
  · rw [if_neg h0]
    by_cases h1 : 32 ≤ i
    · rw [if_pos h1]; exact rank_high x i w hx h1
    · rw [if_neg h1]
      have hi : i = (i.toNat : Int) := by omega
      have := rank_mid x i.toNat w hx (by omega) (by omega)
      rw [← hi] at this
      exact this

end Go.Proofs.YtgedhcfbjbmniaaDoor
