/-
  The numbers of a set of bits, rising: plain Lean, no program.
-/
import Derived.Test.YtgedhcfbjbmniaaDoorCount
import Derived.Lib.TrailingZeros
namespace Go.Proofs.YtgedhcfbjbmniaaDoor
set_option linter.unusedVariables false

/-- the numbers below i whose bit is set -/
def low (x i : Nat) : List Nat := (List.range i).filter x.testBit
theorem low_succ (x i : Nat) : low x (i + 1) = low x i ++ (if x.testBit i then [i] else []) := by
  unfold low
  rw [List.range_succ, List.filter_append]
  congr 1
  cases h : x.testBit i <;> simp [h]
theorem mem_low {x i k : Nat} : k ∈ low x i ↔ k < i ∧ x.testBit k = true := by simp [low]
theorem low_sorted (x i : Nat) : (low x i).Pairwise (· < ·) := List.Pairwise.filter _ List.pairwise_lt_range
theorem low_nodup (x i : Nat) : (low x i).Nodup := (low_sorted x i).imp fun h => Nat.ne_of_lt h
theorem bit_eq (x i : Nat) : x.testBit i = (x / 2 ^ i % 2 == 1) := by
  rw [Nat.testBit_eq_decide_div_mod_eq]; rfl
theorem ones_one (x : Nat) : ones 1 x = x % 2 := by simp [ones]
theorem ones_nil (x : Nat) : ones 0 x = 0 := by simp [ones]
theorem low_len (x i : Nat) : (low x i).length = ones i x := by
  induction i with
  | zero => simp [low, ones_nil]
  | succ i ih =>
    rw [low_succ, List.length_append, ih, ones_add i 1 x, ones_one, bit_eq]
    have h2 := Nat.mod_lt (x / 2 ^ i) (by decide : 0 < 2)
    by_cases h : x / 2 ^ i % 2 = 1
    · simp [h]
    · have h0 : x / 2 ^ i % 2 = 0 := by omega
      simp [h0]

/-- two ascending lists with the same members are one -/
theorem sorted_ext : ∀ {l r : List Nat}, l.Pairwise (· < ·) → r.Pairwise (· < ·) → (∀ k, k ∈ l ↔ k ∈ r) → l = r
  | [], [], _, _, _ => rfl
  | [], b :: r, _, _, h => by have := (h b).2 (by simp); simp at this
  | a :: l, [], _, _, h => by have := (h a).1 (by simp); simp at this
  | a :: l, b :: r, hl, hr, h => by
    have ha := List.pairwise_cons.1 hl
    have hb := List.pairwise_cons.1 hr
    have e : a = b := by
      have h1 := (h a).1 (by simp)
      have h2 := (h b).2 (by simp)
      rcases List.mem_cons.1 h1 with h1 | h1
      · exact h1
      · rcases List.mem_cons.1 h2 with h2 | h2
        · exact h2.symm
        · have := hb.1 a h1; have := ha.1 b h2; omega
    subst e
    congr 1
    refine sorted_ext ha.2 hb.2 fun k => ⟨fun hk => ?_, fun hk => ?_⟩
    · rcases List.mem_cons.1 ((h k).1 (by simp [hk])) with h1 | h1
      · subst h1; have := ha.1 k hk; omega
      · exact h1
    · rcases List.mem_cons.1 ((h k).2 (by simp [hk])) with h1 | h1
      · subst h1; have := hb.1 k hk; omega
      · exact h1

/-- an odd part and its place -/
theorem bit_at (t m j : Nat) : (2 ^ t * (2 * m + 1)).testBit j = (decide (t ≤ j) && (decide (j = t) || m.testBit (j - t - 1))) := by
  rw [Nat.mul_comm, Nat.testBit_mul_two_pow]
  by_cases h : t ≤ j
  · by_cases e : j = t
    · subst e; simp [Nat.testBit_zero]
    · obtain ⟨d, rfl⟩ : ∃ d, j = t + (d + 1) := ⟨j - t - 1, by omega⟩
      have e3 : t + (d + 1) - t = d + 1 := by omega
      have e4 : d + 1 - 1 = d := by omega
      simp only [h, decide_true, Bool.true_and, e3, e4]
      rw [Nat.testBit_succ]
      have d1 : (2 * m + 1) / 2 = m := by omega
      rw [d1]
      simp
  · simp [h]
theorem bit_less (t m j : Nat) : (2 ^ t * (2 * m + 1) - 1).testBit j = (decide (j < t) || (decide (t < j) && m.testBit (j - t - 1))) := by
  have hp := Nat.two_pow_pos t
  have e : 2 ^ t * (2 * m + 1) - 1 = 2 ^ t * (2 * m) + (2 ^ t - 1) := by rw [Nat.mul_add, Nat.mul_one]; omega
  rw [e, Nat.testBit_two_pow_mul_add _ (by omega)]
  by_cases h : j < t
  · rw [if_pos h, Nat.testBit_two_pow_sub_one]; simp [h]
  · rw [if_neg h]
    by_cases e2 : j = t
    · subst e2; simp [Nat.testBit_zero]
    · obtain ⟨d, rfl⟩ : ∃ d, j = t + (d + 1) := ⟨j - t - 1, by omega⟩
      have e3 : t + (d + 1) - t = d + 1 := by omega
      have e4 : d + 1 - 1 = d := by omega
      rw [e3, Nat.testBit_succ]
      have d1 : (2 * m) / 2 = m := by omega
      rw [d1, e4]
      simp; omega
/-- x & (x - 1): the least is gone -/
theorem clear_at (x : Nat) (h0 : x ≠ 0) (hx : x < 2 ^ 32) (j : Nat) : (x &&& (x - 1)).testBit j = (x.testBit j && decide (j ≠ Lib.ctz 32 x)) := by
  obtain ⟨m, hm, hk⟩ := Lib.ctzFrom_spec 32 x (by omega) hx
  have e : Lib.ctz 32 x = Lib.ctzFrom 32 x := by simp [Lib.ctz, h0]
  rw [e]
  generalize Lib.ctzFrom 32 x = t at hm
  subst hm
  rw [Nat.testBit_and, bit_at, bit_less]
  by_cases h1 : j < t
  · have : ¬ t ≤ j := by omega
    simp [h1, this]
  · by_cases h2 : j = t
    · subst h2; simp
    · have h3 : t ≤ j := by omega
      have h4 : t < j := by omega
      simp [h1, h2, h3, h4]
theorem least (x : Nat) (h0 : x ≠ 0) (hx : x < 2 ^ 32) : Lib.ctz 32 x < 32 ∧ x.testBit (Lib.ctz 32 x) = true ∧ ∀ j, x.testBit j = true → Lib.ctz 32 x ≤ j := by
  obtain ⟨m, hm, hk⟩ := Lib.ctzFrom_spec 32 x (by omega) hx
  have e : Lib.ctz 32 x = Lib.ctzFrom 32 x := by simp [Lib.ctz, h0]
  rw [e]
  refine ⟨hk, ?_, ?_⟩
  · generalize Lib.ctzFrom 32 x = t at hm
    subst hm; rw [bit_at]; simp
  · intro j hj
    generalize Lib.ctzFrom 32 x = t at hm
    subst hm
    rw [bit_at] at hj
    simp at hj
    exact hj.1
theorem clear_lt (x : Nat) : x &&& (x - 1) ≤ x := Nat.and_le_left
/-- all of the set, rising, by its least -/
theorem low_cons (x : Nat) (h0 : x ≠ 0) (hx : x < 2 ^ 32) : low x 32 = Lib.ctz 32 x :: low (x &&& (x - 1)) 32 := by
  obtain ⟨h1, h2, h3⟩ := least x h0 hx
  refine sorted_ext (low_sorted _ _) (List.pairwise_cons.2 ⟨fun j hj => ?_, low_sorted _ _⟩) fun k => ?_
  · rw [mem_low, clear_at x h0 hx] at hj
    have := h3 j (by simp at hj; exact hj.2.1)
    simp at hj
    omega
  · rw [List.mem_cons, mem_low, mem_low, clear_at x h0 hx]
    by_cases e : k = Lib.ctz 32 x
    · subst e; simp [h1, h2]
    · simp [e]
theorem low_zero (i : Nat) : low 0 i = [] := by simp [low]
/-- the least are taken off one by one -/
def clears (x : Nat) : Nat → Nat
  | 0 => x
  | j + 1 => clears x j &&& (clears x j - 1)
theorem clears_le (x : Nat) : ∀ j, clears x j ≤ x
  | 0 => Nat.le_refl _
  | j + 1 => Nat.le_trans (clear_lt _) (clears_le x j)
theorem clears_low (x : Nat) (hx : x < 2 ^ 32) : ∀ j, j ≤ (low x 32).length → low (clears x j) 32 = (low x 32).drop j
  | 0, _ => by simp [clears]
  | j + 1, h => by
    have ih := clears_low x hx j (by omega)
    have hne : clears x j ≠ 0 := by
      intro e
      rw [e, low_zero] at ih
      have := congrArg List.length ih
      simp at this; omega
    have hc := low_cons (clears x j) hne (Nat.lt_of_le_of_lt (clears_le x j) hx)
    rw [ih] at hc
    show low (clears x j &&& (clears x j - 1)) 32 = _
    rw [← List.tail_drop, hc]; rfl
theorem clears_least (x : Nat) (hx : x < 2 ^ 32) (j : Nat) (h : j < (low x 32).length) : clears x j ≠ 0 ∧ Lib.ctz 32 (clears x j) = (low x 32)[j]'h := by
  have e := clears_low x hx j (by omega)
  have hne : clears x j ≠ 0 := by
    intro e0
    rw [e0, low_zero] at e
    have := congrArg List.length e
    simp at this; omega
  refine ⟨hne, ?_⟩
  have hc := low_cons (clears x j) hne (Nat.lt_of_le_of_lt (clears_le x j) hx)
  rw [e, List.drop_eq_getElem_cons h] at hc
  exact (List.cons.inj hc).1.symm
theorem clears_end (x : Nat) (hx : x < 2 ^ 32) : clears x (low x 32).length = 0 := by
  apply Nat.eq_of_testBit_eq
  intro i
  have e := clears_low x hx _ (Nat.le_refl _)
  rw [List.drop_length] at e
  rw [Nat.zero_testBit]
  by_cases hi : i < 32
  · cases h : (clears x (low x 32).length).testBit i with
    | false => rfl
    | true => have := mem_low.2 ⟨hi, h⟩; rw [e] at this; simp at this
  · exact Nat.testBit_lt_two_pow (Nat.lt_of_lt_of_le (Nat.lt_of_le_of_lt (clears_le x _) hx) (Nat.pow_le_pow_right (by decide) (by omega)))
theorem clears_pos (x : Nat) (hx : x < 2 ^ 32) (j : Nat) (h : j ≤ (low x 32).length) : clears x j ≠ 0 ↔ j < (low x 32).length := by
  refine ⟨fun hne => ?_, fun h => (clears_least x hx j h).1⟩
  rcases Nat.lt_or_ge j (low x 32).length with h' | h'
  · exact h'
  · have : j = (low x 32).length := by omega
    subst this
    exact absurd (clears_end x hx) hne
end Go.Proofs.YtgedhcfbjbmniaaDoor
