/-
  The walks of At, the program's and the reference's.
-/
import Derived.Test.YtgedhcfbjbmniaaCount
import Derived.WalkKit
import Derived.WalkSpells
import Derived.WalkLawsBesides
import Derived.Deep.QuietTactic
import Derived.BigQuiet
import Derived.Lib.Hide
namespace Go.Proofs.Ytgedhcfbjbmniaa
open Go.RowKit
set_option linter.unusedVariables false

theorem div_lt (h k : Nat) (hh : h < 18446744073709551616) : h / 2 ^ k < 18446744073709551616 := Nat.lt_of_le_of_lt (Nat.div_le_self _ _) hh

theorem and31 (x : Nat) (hx : x < 18446744073709551616) : wrap64 (bits .and .u64 (x : Int) 31) = ((x % 32 : Nat) : Int) := by
  have e := u64_and_nat x 31 hx (by decide)
  have e2 : x &&& 31 = x % 32 := Nat.and_two_pow_sub_one_eq_mod x 5
  rw [e2] at e
  have e3 : bits .and .u64 (x : Int) 31 = ((x % 32 : Nat) : Int) := e
  rw [e3]
  have := Nat.mod_lt x (by decide : 0 < 32)
  unfold wrap64; omega

theorem cast_div (h k : Nat) : (h : Int) / 2 ^ k = ((h / 2 ^ k : Nat) : Int) := by
  rw [Int.natCast_ediv, Int.natCast_pow]; rfl

/-- five bits of a hash -/
def five (h l : Nat) : Nat := h / 2 ^ (5 * l) % 32

set_option maxHeartbeats 400000 in
/-- chunk.At, at a level that is -/
theorem tat_in (h : Nat) (l : Nat) (w : World) (hh : h < 18446744073709551616) (hl : l < 13) :
    Calls Try.prog 5 #[.int .u64 h, .int .i64 l] w fun e w' => e = .returned (.int .i64 (five h l)) ∧ w' = w := by
  go_enter Try.func5, Try.ntmps5
  go_wp2
  go_ret
  refine ⟨ret_int ?_, rfl⟩
  rw [cast_div, and31 _ (div_lt _ _ hh)]; rfl

set_option maxHeartbeats 400000 in
/-- chunk.At, at one that is not -/
theorem tat_out (h : Nat) (l : Int) (w : World) (hl : l < 0 ∨ 13 ≤ l) :
    Calls Try.prog 5 #[.int .u64 h, .int .i64 l] w fun e w' => e = .returned (.int .i64 0) ∧ w' = w := by
  rcases hl with hl | hl
  · go_enter Try.func5, Try.ntmps5
    go_wp2
    go_ret
    exact ⟨rfl, rfl⟩
  · have h0 : ¬ l < 0 := by omega
    go_enter Try.func5, Try.ntmps5
    go_wp2
    go_ret
    exact ⟨rfl, rfl⟩

theorem div_step (h k : Nat) : h / 2 ^ (5 * k) / 32 = h / 2 ^ (5 * (k + 1)) := by
  rw [Nat.div_div_eq_div_mul, show 5 * (k + 1) = 5 * k + 5 from by omega, Nat.pow_add]

set_option maxHeartbeats 400000 in
/-- the reference's At -/
theorem rat_in (h : Nat) (l : Nat) (w : World) (hh : h < 18446744073709551616) (hl : l < 13) :
    Calls Try.prog 6 #[.int .u64 h, .int .i64 l] w fun e w' => e = .returned (.int .i64 (five h l)) ∧ w' = w := by
  go_enter Try.func6, Try.ntmps6
  go_wp2
  go_loop [0, 5] (fun a i => ∃ k x : Nat, i = .int .i64 k ∧ a = .int .u64 x ∧ k ≤ l ∧ x ≤ h ∧ Hid (x = h / 2 ^ (5 * k))) (fun _ i => l - (intOf i).toNat)
  case atStart => exact ⟨0, h, rfl, rfl, by omega, by omega, Lib.hid (by simp)⟩
  case round =>
    obtain ⟨k, x, rfl, rfl, hk, hx, HX⟩ := hrel
    by_cases hlt : k < l
    · go_wp2
      go_round
      case rel => exact ⟨k + 1, x / 32, by go_num, by simp, by omega, by omega, Lib.hid (by rw [HX.out, div_step])⟩
      case measure => simp [intOf]; omega
    · have hkl : k = l := by omega
      go_wp2
      go_ret
      refine ⟨ret_int ?_, rfl⟩
      rw [← hkl]
      unfold five; rw [← HX.out]; simp

set_option maxHeartbeats 400000 in
theorem rat_out (h : Nat) (l : Int) (w : World) (hl : l < 0 ∨ 13 ≤ l) :
    Calls Try.prog 6 #[.int .u64 h, .int .i64 l] w fun e w' => e = .returned (.int .i64 0) ∧ w' = w := by
  rcases hl with hl | hl
  · go_enter Try.func6, Try.ntmps6
    go_wp2
    go_ret
    exact ⟨rfl, rfl⟩
  · have h0 : ¬ l < 0 := by omega
    go_enter Try.func6, Try.ntmps6
    go_wp2
    go_ret
    exact ⟨rfl, rfl⟩

set_option maxHeartbeats 400000 in
theorem awake_any (w : World) : Calls Try.prog 4 #[] w fun e w' => e = .returned (.bool true) ∧ Below w.heap.size w w' := by
  have h1 : five 1000 1 = 31 := by decide +kernel
  have h2 : rk 516 9 = 1 := by decide +kernel
  have H1 := Lib.hid h1
  have H2 := Lib.hid h2
  clear h1 h2
  go_enter Try.func4, Try.ntmps4
  go_wp2_with fail
  refine (tat_in 1000 1 _ (by decide) (by decide)).mono ?_
  rintro e w' ⟨rfl, rfl⟩
  rw [H1.out]
  go_wp2_with fail
  refine (rank_any 516 9 _ (by decide)).mono ?_
  rintro e w' ⟨rfl, n, rfl⟩
  rw [H2.out]
  go_wp2
  go_ret
  exact ⟨rfl, below_drewN (Below.refl _ _) n⟩

/-! the law -/
theorem put_back (h k : Nat) (hh : h < 18446744073709551616) : h / 2 ^ (5 * (k + 1)) * 32 + h / 2 ^ (5 * k) % 32 = h / 2 ^ (5 * k) := by
  rw [← div_step]
  have := Nat.div_add_mod (h / 2 ^ (5 * k)) 32
  omega

theorem step_low (h k : Nat) (hh : h < 18446744073709551616) : h / 2 ^ (5 * (k + 1)) * 32 < 18446744073709551616 := by
  have := put_back h k hh
  have := div_lt h (5 * k) hh
  omega

theorem or_five (h k : Nat) (hh : h < 18446744073709551616) :
    bits .or .u64 ((h / 2 ^ (5 * (k + 1)) * 32 : Nat) : Int) ((five h k : Nat) : Int) = ((h / 2 ^ (5 * k) : Nat) : Int) := by
  have h5 : five h k < 32 := Nat.mod_lt _ (by decide)
  rw [u64_or_nat _ _ (step_low h k hh) (by omega)]
  have e : h / 2 ^ (5 * (k + 1)) * 32 ||| five h k = h / 2 ^ (5 * (k + 1)) * 32 + five h k := by
    have := Nat.two_pow_add_eq_or_of_lt (i := 5) (b := five h k) h5 (h / 2 ^ (5 * (k + 1)))
    rw [Nat.mul_comm] at this
    exact this.symm
  rw [e]
  show ((h / 2 ^ (5 * (k + 1)) * 32 + h / 2 ^ (5 * k) % 32 : Nat) : Int) = _
  rw [put_back h k hh]

theorem five_top (h : Nat) (hh : h < 18446744073709551616) : five h 12 < 16 := by
  unfold five
  have : h / 2 ^ (5 * 12) < 16 := by
    rw [Nat.div_lt_iff_lt_mul (Nat.two_pow_pos _)]
    exact hh
  exact Nat.lt_of_le_of_lt (Nat.mod_le _ _) this

set_option maxHeartbeats 1000000 in
theorem levels_tail (h : Nat) (l : Int) (r : Nat) (w : World) (hh : h < 18446744073709551616) (c1 : ∀ w : World, Calls Try.prog 5 #[.int .u64 h, .int .i64 l] w fun e w' => e = .returned (.int .i64 r) ∧ w' = w)
    (c2 : ∀ w : World, Calls Try.prog 6 #[.int .u64 h, .int .i64 l] w fun e w' => e = .returned (.int .i64 r) ∧ w' = w) :
    Calls Try.prog 3 #[.int .u64 h, .int .i64 l] w fun e w' => e = .returned (.bool true) ∧ Below w.heap.size w w' := by
  have C1 := Lib.hid c1
  have C2 := Lib.hid c2
  clear c1 c2
  have h12 := five_top h hh
  go_enter Try.func3, Try.ntmps3
  go_wp2_with fail
  refine (awake_any _).mono ?_
  rintro e w1 ⟨rfl, hb⟩
  go_wp2_with fail
  refine (C1.out _).mono ?_
  rintro e w' ⟨rfl, rfl⟩
  go_wp2_with fail
  refine (C2.out _).mono ?_
  rintro e w' ⟨rfl, rfl⟩
  go_wp2_with fail
  go_loop [5, 6] (fun v i => ∃ k a : Nat, i = .int .i64 ((k : Int) - 1) ∧ v = .int .u64 a ∧ k ≤ 13 ∧ Hid (a = h / 2 ^ (5 * k))) (fun _ i => (intOf i + 1).toNat)
  case atStart => exact ⟨13, 0, rfl, rfl, by omega, Lib.hid (by rw [Nat.div_eq_of_lt]; exact Nat.lt_of_lt_of_le hh (by decide))⟩
  case round =>
    obtain ⟨k, a, rfl, rfl, hk, HA⟩ := hrel
    cases k with
    | zero =>
      have ha : a = h := by have := HA.out; simpa using this
      subst ha
      rw [show (((0 : Nat) : Int) - 1) = -1 from rfl]
      go_wp2_with fail
      refine (tat_out a (-1) _ (by omega)).mono ?_
      rintro e w' ⟨rfl, rfl⟩
      go_wp2_with fail
      refine (tat_out a 13 _ (by omega)).mono ?_
      rintro e w' ⟨rfl, rfl⟩
      go_wp2_with fail
      refine (tat_in a 12 _ hh (by omega)).mono ?_
      rintro e w' ⟨rfl, rfl⟩
      go_wp2
      go_ret
      exact ⟨ret_bool (decide_eq_true (by omega)), hb⟩
    | succ m =>
      rw [show (((m + 1 : Nat) : Int) - 1) = (m : Int) from by omega]
      have HO := Lib.hid (or_five h m hh)
      have hs := step_low h m hh
      rw [← HA.out] at HO hs
      have h32 : five h m < 32 := Nat.mod_lt _ (by decide)
      go_wp2_with fail
      refine (tat_in h m _ hh (by omega)).mono ?_
      rintro e w' ⟨rfl, rfl⟩
      go_wp2_with fail
      go_round
      case rel => exact ⟨m, h / 2 ^ (5 * m), rfl, congrArg (Value.int .u64) (by rw [show ((a : Int) * 32) = ((a * 32 : Nat) : Int) from by omega]; exact HO.out), by omega, Lib.hid rfl⟩
      case measure => simp [intOf]

theorem levels_walk (h : Nat) (l : Int) (w : World) (hh : h < 18446744073709551616) :
    Calls Try.prog 3 #[.int .u64 h, .int .i64 l] w fun e w' => e = .returned (.bool true) ∧ Below w.heap.size w w' := by
  by_cases hl : l < 0 ∨ 13 ≤ l
  · exact levels_tail h l 0 w hh (fun w => tat_out h l w hl) (fun w => rat_out h l w hl)
  · have e : l = (l.toNat : Int) := by omega
    rw [e]
    exact levels_tail h l.toNat (five h l.toNat) w hh (fun w => tat_in h l.toNat w hh (by omega)) (fun w => rat_in h l.toNat w hh (by omega))

theorem levels_at (a0 : Int) (a1 : Int) (w0 : (Lit.int .u64 a0).wf = true) (w1 : (Lit.int .i64 a1).wf = true) (w : World) :
    Calls Try.prog 3 #[.int .u64 a0, .int .i64 a1] w fun e w' => e = .returned (.bool true) ∧ Below w.heap.size w w' := by
  have hm : IntKind.u64.min = 0 := rfl
  have hx : IntKind.u64.max = 18446744073709551615 := rfl
  simp only [Lit.wf, Bool.and_eq_true, decide_eq_true_eq] at w0
  have e : a0 = (a0.toNat : Int) := by omega
  rw [e]
  exact levels_walk a0.toNat a1 w (by omega)

end Go.Proofs.Ytgedhcfbjbmniaa
