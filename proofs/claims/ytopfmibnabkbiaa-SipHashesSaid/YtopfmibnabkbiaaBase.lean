/-
  The walks of sip's rounds.
-/
import Derived.Test.YtopfmibnabkbiaaRows
import Derived.WalkKit
import Derived.WalkSpells
import Derived.WalkLawsBesides
import Derived.Deep.QuietTactic
import Derived.BigQuiet
import Derived.BigRegion
import Derived.Lib.Hide
namespace Go.Proofs.Ytopfmibnabkbiaa
open Go.RowKit
set_option linter.unusedVariables false

def nu (x : UInt64) : Int := (x.toNat : Int)
theorem nu_nn (x : UInt64) : 0 ≤ nu x := by unfold nu; omega
theorem nu_lt (x : UInt64) : nu x < 18446744073709551616 := by
  unfold nu; have := x.toNat_lt; omega

/-- turned left by k bits -/
def R (k x : Nat) : Nat := x % 2 ^ (64 - k) * 2 ^ k + x / 2 ^ (64 - k)
theorem R_zero (x : Nat) (hx : x < 18446744073709551616) : R 0 x = x := by
  have h : (2 : Nat) ^ 64 = 18446744073709551616 := by decide
  unfold R
  rw [Nat.sub_zero, h, Nat.mod_eq_of_lt hx, Nat.div_eq_of_lt hx]; omega
theorem pow_split (k : Nat) (hk : k ≤ 64) : 2 ^ (64 - k) * 2 ^ k = 18446744073709551616 := by
  rw [← Nat.pow_add, Nat.sub_add_cancel hk]
theorem div_top (x k : Nat) (hk : k ≤ 64) (hx : x < 18446744073709551616) : x / 2 ^ (64 - k) < 2 ^ k := by
  rw [Nat.div_lt_iff_lt_mul (Nat.two_pow_pos _), Nat.mul_comm, pow_split k hk]; exact hx
theorem R_lt (k x : Nat) (hk : k ≤ 64) (hx : x < 18446744073709551616) : R k x < 18446744073709551616 := by
  unfold R
  have h1 : x % 2 ^ (64 - k) < 2 ^ (64 - k) := Nat.mod_lt _ (Nat.two_pow_pos _)
  have h2 := div_top x k hk hx
  have h3 := pow_split k hk
  have h4 : (x % 2 ^ (64 - k) + 1) * 2 ^ k ≤ 2 ^ (64 - k) * 2 ^ k := Nat.mul_le_mul_right _ h1
  rw [Nat.add_mul, Nat.one_mul] at h4
  omega
theorem R_shift (k x : Nat) (hk : k ≤ 64) : x * 2 ^ k % 18446744073709551616 = x % 2 ^ (64 - k) * 2 ^ k := by
  rw [← pow_split k hk, Nat.mul_mod_mul_right]
theorem R_fin (c a dq q : Nat) (hc : c < 2) (ha : a < q) (hd : dq + q ≤ 9223372036854775808) :
    ((c * 9223372036854775808 + dq + a) * 2 % 18446744073709551616 + (c * 9223372036854775808 + dq + a) / 9223372036854775808) % 18446744073709551616 = dq * 2 + (2 * a + c) := by
  have h : c = 0 ∨ c = 1 := by omega
  have hy : dq + a < 9223372036854775808 := by omega
  rcases h with rfl | rfl
  · have h1 : (0 * 9223372036854775808 + dq + a) * 2 % 18446744073709551616 = (dq + a) * 2 := by omega
    have h2 : (0 * 9223372036854775808 + dq + a) / 9223372036854775808 = 0 := by omega
    rw [h1, h2]; omega
  · have h1 : (1 * 9223372036854775808 + dq + a) * 2 % 18446744073709551616 = (dq + a) * 2 := by omega
    have h2 : (1 * 9223372036854775808 + dq + a) / 9223372036854775808 = 1 := by omega
    rw [h1, h2]; omega
/-- a bit more -/
theorem R_succ (k x : Nat) (hk : k < 64) (hx : x < 18446744073709551616) :
    (R k x * 2 % 18446744073709551616 + R k x / 9223372036854775808) % 18446744073709551616 = R (k + 1) x := by
  have hb := R_lt (k + 1) x (by omega) hx
  have e64 : 64 - k = (63 - k) + 1 := by omega
  have e63 : 64 - (k + 1) = 63 - k := by omega
  unfold R at hb ⊢
  rw [e63] at hb ⊢
  rw [e64]
  generalize hp : 2 ^ (63 - k) = p at hb ⊢
  have hpp : 0 < p := by rw [← hp]; exact Nat.two_pow_pos _
  have hP : p * 2 ^ k = 9223372036854775808 := by
    rw [← hp, ← Nat.pow_add]
    have : 63 - k + k = 63 := by omega
    rw [this]
  have ha : x / 2 ^ ((63 - k) + 1) < 2 ^ k := by rw [← e64]; exact div_top x k (by omega) hx
  rw [Nat.pow_succ, hp] at ha ⊢
  rw [Nat.pow_succ] at hb ⊢
  generalize hq : (2 : Nat) ^ k = q at ha hP hb ⊢
  have hqq : 0 < q := by rw [← hq]; exact Nat.two_pow_pos _
  -- x = (2 a + c) p + d, where 2 a + c = x / p
  have e1 : x / (p * 2) = x / p / 2 := (Nat.div_div_eq_div_mul _ _ _).symm
  have e2 : x % (p * 2) = (x / p % 2) * p + x % p := by
    rw [Nat.mod_mul, Nat.mul_comm]; omega
  rw [e1] at ha
  rw [e1, e2]
  generalize hn : x / p = n at ha hb ⊢
  have hd : x % p < p := Nat.mod_lt _ hpp
  generalize x % p = d at hb hd ⊢
  have hc : n % 2 < 2 := Nat.mod_lt _ (by decide)
  have hdq : (d + 1) * q ≤ p * q := Nat.mul_le_mul_right _ hd
  rw [Nat.add_mul, Nat.one_mul] at hdq
  have e3 : (n % 2 * p + d) * q = n % 2 * (p * q) + d * q := by rw [Nat.add_mul, Nat.mul_assoc]
  have e4 : d * (q * 2) = d * q * 2 := by rw [Nat.mul_assoc]
  rw [e3, hP, e4]
  rw [hP] at hdq
  have hn2 := Nat.div_add_mod n 2
  rw [R_fin (n % 2) (n / 2) (d * q) q hc ha hdq, hn2]

theorem add_nu (x y : UInt64) : IntKind.u64.wrap (nu x + nu y) = nu (x + y) := by
  unfold nu
  rw [UInt64.toNat_add]
  show ((x.toNat : Int) + (y.toNat : Int)) % 18446744073709551616 = _
  omega

theorem xor_nu (x y : UInt64) : bits .xor .u64 (nu x) (nu y) = nu (x ^^^ y) := by
  unfold nu
  have hx := x.toNat_lt
  have hy := y.toNat_lt
  rw [u64_xor_nat _ _ hx hy, UInt64.toNat_xor]

theorem or_nu (x y : UInt64) : bits .or .u64 (nu x) (nu y) = nu (x ||| y) := by
  unfold nu
  have hx := x.toNat_lt
  have hy := y.toNat_lt
  rw [u64_or_nat _ _ hx hy, UInt64.toNat_or]

theorem and_nu (x y : UInt64) : bits .and .u64 (nu x) (nu y) = nu (x &&& y) := by
  unfold nu
  have hx := x.toNat_lt
  have hy := y.toNat_lt
  rw [u64_and_nat _ _ hx hy, UInt64.toNat_and]

attribute [irreducible] nu

def rot (x : UInt64) (k : Nat) : UInt64 := UInt64.ofNat (R k x.toNat)
theorem nu_eq (x : UInt64) : nu x = (x.toNat : Int) := by unfold nu; rfl
theorem rot_nu (x : UInt64) (k : Nat) (hk : k ≤ 64) : nu (rot x k) = (R k x.toNat : Int) := by
  rw [nu_eq]; unfold rot
  rw [UInt64.toNat_ofNat_of_lt' (R_lt k _ hk x.toNat_lt)]
theorem rot_zero (x : UInt64) : rot x 0 = x := by
  unfold rot; rw [R_zero _ x.toNat_lt]; exact UInt64.ofNat_toNat
theorem wrap_u64 (n : Int) : IntKind.u64.wrap n = n % 18446744073709551616 := rfl
theorem rot_val (x : UInt64) (k : Nat) (hk : k ≤ 64) : bits .or .u64 (IntKind.u64.wrap (nu x * 2 ^ k)) (nu x / 2 ^ (64 - k)) = nu (rot x k) := by
  have hx := x.toNat_lt
  rw [rot_nu x k hk, nu_eq, wrap_u64]
  have e1 : (x.toNat : Int) * 2 ^ k % 18446744073709551616 = ((x.toNat * 2 ^ k % 18446744073709551616 : Nat) : Int) := by
    rw [Int.natCast_emod, Int.natCast_mul, Int.natCast_pow]; rfl
  have e2 : (x.toNat : Int) / 2 ^ (64 - k) = ((x.toNat / 2 ^ (64 - k) : Nat) : Int) := by
    rw [Int.natCast_ediv, Int.natCast_pow]; rfl
  rw [e1, e2, u64_or_nat _ _ (Nat.mod_lt _ (by decide)) (Nat.lt_of_le_of_lt (Nat.div_le_self _ _) hx), R_shift k _ hk]
  have := Nat.two_pow_add_eq_or_of_lt (i := k) (b := x.toNat / 2 ^ (64 - k)) (div_top _ k hk hx) (x.toNat % 2 ^ (64 - k))
  rw [Nat.mul_comm] at this
  rw [← this]; rfl
theorem turn_val (x : UInt64) (k : Nat) (hk : k < 64) : IntKind.u64.wrap (IntKind.u64.wrap (nu (rot x k) * 2) + nu (rot x k) / 9223372036854775808) = nu (rot x (k + 1)) := by
  rw [rot_nu x k (by omega), rot_nu x (k + 1) (by omega), wrap_u64, wrap_u64, ← R_succ k _ hk x.toNat_lt]
  generalize R k x.toNat = r
  omega

theorem ret_int {k : IntKind} {a b : Int} (h : a = b) : Ending.returned (.int k a) = .returned (.int k b) := by rw [h]
theorem ret_bool {a b : Bool} (h : a = b) : Ending.returned (.bool a) = .returned (.bool b) := by rw [h]

attribute [irreducible] rot

set_option maxHeartbeats 400000 in
/-- bits.RotateLeft64 -/
theorem rot_any (x : UInt64) (k : Nat) (w : World) (hk : 0 < k) (hk2 : k < 64) (ha : bits .and .u64 (k : Int) 63 = (k : Int)) :
    Calls Try.prog 17 #[.int .u64 (nu x), .int .i64 k] w fun e w' => e = .returned (.int .u64 (nu (rot x k))) ∧ w = w' := by
  have b0 := nu_nn x
  have b1 := nu_lt x
  go_enter Try.func17, Try.ntmps17
  go_wp2
  go_ret
  exact ⟨ret_int (rot_val x k (by omega)), rfl⟩

theorem rot13 (x : UInt64) (w : World) : Calls Try.prog 17 #[.int .u64 (nu x), .int .i64 13] w fun e w' => e = .returned (.int .u64 (nu (rot x 13))) ∧ w = w' := rot_any x 13 w (by decide) (by decide) (by decide)
theorem rot16 (x : UInt64) (w : World) : Calls Try.prog 17 #[.int .u64 (nu x), .int .i64 16] w fun e w' => e = .returned (.int .u64 (nu (rot x 16))) ∧ w = w' := rot_any x 16 w (by decide) (by decide) (by decide)
theorem rot17 (x : UInt64) (w : World) : Calls Try.prog 17 #[.int .u64 (nu x), .int .i64 17] w fun e w' => e = .returned (.int .u64 (nu (rot x 17))) ∧ w = w' := rot_any x 17 w (by decide) (by decide) (by decide)
theorem rot21 (x : UInt64) (w : World) : Calls Try.prog 17 #[.int .u64 (nu x), .int .i64 21] w fun e w' => e = .returned (.int .u64 (nu (rot x 21))) ∧ w = w' := rot_any x 21 w (by decide) (by decide) (by decide)
theorem rot32 (x : UInt64) (w : World) : Calls Try.prog 17 #[.int .u64 (nu x), .int .i64 32] w fun e w' => e = .returned (.int .u64 (nu (rot x 32))) ∧ w = w' := rot_any x 32 w (by decide) (by decide) (by decide)

set_option maxHeartbeats 400000 in
/-- the reference's turn: bit by bit -/
theorem turn_any (x : UInt64) (n : Nat) (w : World) (hn : n ≤ 64) :
    Calls Try.prog 18 #[.int .u64 (nu x), .int .i64 n] w fun e w' => e = .returned (.int .u64 (nu (rot x n))) ∧ w = w' := by
  go_enter Try.func18, Try.ntmps18
  go_wp2
  go_loop [0, 5] (fun v i => ∃ k : Nat, i = .int .i64 k ∧ k ≤ n ∧ v = .int .u64 (nu (rot x k))) (fun _ i => n - (intOf i).toNat)
  case atStart => exact ⟨0, rfl, by omega, by rw [rot_zero]⟩
  case round =>
    obtain ⟨k, rfl, hk, rfl⟩ := hrel
    by_cases hlt : k < n
    · have HT := Lib.hid (turn_val x k (by omega))
      have b0 := nu_nn (rot x k)
      have b1 := nu_lt (rot x k)
      generalize rot x k = z at *
      go_wp2
      go_round
      case rel => exact ⟨k + 1, by go_num, by omega, congrArg (Value.int .u64) HT.out⟩
      case measure => simp [intOf]; omega
    · have hkn : k = n := by omega
      subst hkn
      go_wp2
      go_ret
      exact ⟨rfl, rfl⟩

end Go.Proofs.Ytopfmibnabkbiaa
