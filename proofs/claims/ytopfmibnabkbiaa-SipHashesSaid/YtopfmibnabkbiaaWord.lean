/-
  The walks of word: up to eight bytes, the lowest first.
-/
import Derived.Test.YtopfmibnabkbiaaTake
namespace Go.Proofs.Ytopfmibnabkbiaa
open Go.RowKit
set_option linter.unusedVariables false

theorem len_list (a : ByteArray) : a.data.toList.length = a.size := by rw [Array.length_toList]; rfl

theorem or_step (a c m k : Nat) (hm : m = 2 ^ (8 * k)) (hc : c < 256) (hb : (a * 256 + c) * m < 18446744073709551616) :
    bits .or .u64 ((a * 256 * m : Nat) : Int) (IntKind.u64.wrap (IntKind.u64.wrap (c : Int) * (m : Int))) = (((a * 256 + c) * m : Nat) : Int) := by
  have hmp : 0 < m := by rw [hm]; exact Nat.two_pow_pos _
  rw [Nat.add_mul] at hb
  have e1 : IntKind.u64.wrap (c : Int) = (c : Int) := by rw [wrap_u64]; omega
  have e2 : IntKind.u64.wrap ((c : Int) * (m : Int)) = ((c * m : Nat) : Int) := by
    rw [wrap_u64, ← Int.natCast_mul]
    omega
  rw [e1, e2, u64_or_nat _ _ (by omega) (by omega)]
  have hlt : c * m < 2 ^ (8 * k + 8) := by
    rw [Nat.pow_add, ← hm]
    have : c * m < 256 * m := Nat.mul_lt_mul_of_pos_right hc hmp
    have e : (2 : Nat) ^ 8 = 256 := by decide
    rw [e, Nat.mul_comm m]; exact this
  have e3 : a * 256 * m = 2 ^ (8 * k + 8) * a := by
    rw [Nat.pow_add, ← hm]
    have e : (2 : Nat) ^ 8 = 256 := by decide
    rw [e, Nat.mul_comm (m * 256) a, Nat.mul_assoc, Nat.mul_comm 256 m]
  have := Nat.two_pow_add_eq_or_of_lt hlt a
  rw [e3, ← this, ← e3, Nat.add_mul]

/-- from the highest byte down -/
theorem word_chain (s : ByteArray) (hs : s.size ≤ 8) : ∃ q : Nat → Nat, q 0 = le s.data.toList ∧ q s.size = 0 ∧
    ∀ i (h : i < s.size), bits .or .u64 ((q (i + 1) : Nat) : Int) (IntKind.u64.wrap (IntKind.u64.wrap ((s[i].toNat : Nat) : Int) * ((2 ^ (8 * i) : Nat) : Int))) = ((q i : Nat) : Int) := by
  refine ⟨fun i => le (s.data.toList.drop i) * 2 ^ (8 * i), by simp, ?_, fun i h => ?_⟩
  · show le (s.data.toList.drop s.size) * _ = 0
    rw [List.drop_eq_nil_of_le (by rw [len_list]; exact Nat.le_refl _)]
    simp [le]
  · have e : s.data.toList.drop i = s[i] :: s.data.toList.drop (i + 1) := by
      rw [List.drop_eq_getElem_cons (by rw [len_list]; exact h)]; rfl
    have hb := le_lt (s.data.toList.drop i)
    have hc := s[i].toNat_lt
    have e2 : le (s.data.toList.drop i) = le (s.data.toList.drop (i + 1)) * 256 + s[i].toNat := by
      rw [e]; simp only [le]; omega
    have hlen : (s.data.toList.drop i).length = s.size - i := by rw [List.length_drop, len_list]
    have hlt : le (s.data.toList.drop i) * 2 ^ (8 * i) < 18446744073709551616 := by
      rw [hlen] at hb
      have p1 : (256 : Nat) ^ (s.size - i) * 2 ^ (8 * i) ≤ 18446744073709551616 := by
        have e256 : (256 : Nat) = 2 ^ 8 := by decide
        rw [e256, ← Nat.pow_mul, ← Nat.pow_add]
        have : 2 ^ (8 * (s.size - i) + 8 * i) ≤ 2 ^ 64 := Nat.pow_le_pow_right (by decide) (by omega)
        exact this
      exact Nat.lt_of_lt_of_le (Nat.mul_lt_mul_of_pos_right hb (Nat.two_pow_pos _)) p1
    rw [e2] at hlt
    have := or_step (le (s.data.toList.drop (i + 1))) s[i].toNat (2 ^ (8 * i)) i rfl hc hlt
    have e3 : le (s.data.toList.drop (i + 1)) * 2 ^ (8 * (i + 1)) = le (s.data.toList.drop (i + 1)) * 256 * 2 ^ (8 * i) := by
      rw [show 8 * (i + 1) = 8 * i + 8 from by omega, Nat.pow_add, Nat.mul_comm (2 ^ (8 * i)), ← Nat.mul_assoc]
    show bits .or .u64 ((le (s.data.toList.drop (i + 1)) * 2 ^ (8 * (i + 1)) : Nat) : Int) _ = ((le (s.data.toList.drop i) * 2 ^ (8 * i) : Nat) : Int)
    rw [e3, e2]; exact this

theorem hq0 {s : ByteArray} {q : Nat → Nat} (hq : ∀ i (h : i < s.size), bits .or .u64 ((q (i + 1) : Nat) : Int) (IntKind.u64.wrap (IntKind.u64.wrap ((s[i].toNat : Nat) : Int) * ((2 ^ (8 * i) : Nat) : Int))) = ((q i : Nat) : Int)) (h : 0 < s.size) :
    bits .or .u64 ((q 1 : Nat) : Int) (IntKind.u64.wrap ((s[0].toNat : Nat) : Int)) = ((q 0 : Nat) : Int) := by
  have := hq 0 h
  have e : ((2 ^ (8 * 0) : Nat) : Int) = 1 := rfl
  have hc := s[0].toNat_lt
  have e1 : IntKind.u64.wrap ((s[0].toNat : Nat) : Int) = ((s[0].toNat : Nat) : Int) := by rw [wrap_u64]; omega
  rw [e, e1, Int.mul_one] at this
  exact this

attribute [local irreducible] le

set_option maxRecDepth 100000 in
set_option maxHeartbeats 1000000 in
theorem word_0 (s : ByteArray) (w : World) (h : s.size = 0) :
    Calls Try.prog 14 #[.string s] w fun e w' => e = .returned (.int .u64 (le s.data.toList)) ∧ w = w' := by
  obtain ⟨q, q0, qn, hq⟩ := word_chain s (by omega)
  rw [h] at qn
  have hi : (s.size : Int) = 0 := by omega
  have HQ := Lib.hid (q0.symm.trans qn)
  clear q0 qn hq h q
  go_enter Try.func14, Try.ntmps14
  go_wp2
  go_ret
  exact ⟨ret_int (by rw [HQ.out]; rfl), rfl⟩

set_option maxRecDepth 100000 in
set_option maxHeartbeats 1000000 in
theorem word_1 (s : ByteArray) (w : World) (h : s.size = 1) :
    Calls Try.prog 14 #[.string s] w fun e w' => e = .returned (.int .u64 (le s.data.toList)) ∧ w = w' := by
  obtain ⟨q, q0, qn, hq⟩ := word_chain s (by omega)
  rw [h] at qn
  have g0 : 0 < s.size := by omega
  have e0 : bits .or .u64 0 (IntKind.u64.wrap ((s[0].toNat : Nat) : Int)) = ((q 0 : Nat) : Int) := by have z := hq0 hq g0; rw [qn] at z; exact z
  have hi : (s.size : Int) = 1 := by omega
  generalize q 0 = p0 at *
  have HQ := Lib.hid q0
  clear q0 qn hq h q
  go_enter Try.func14, Try.ntmps14
  go_wp2
  go_ret
  exact ⟨ret_int (by rw [← HQ.out]), rfl⟩

set_option maxRecDepth 100000 in
set_option maxHeartbeats 1000000 in
theorem word_2 (s : ByteArray) (w : World) (h : s.size = 2) :
    Calls Try.prog 14 #[.string s] w fun e w' => e = .returned (.int .u64 (le s.data.toList)) ∧ w = w' := by
  obtain ⟨q, q0, qn, hq⟩ := word_chain s (by omega)
  rw [h] at qn
  have g1 : 1 < s.size := by omega
  have g0 : 0 < s.size := by omega
  have e1 : bits .or .u64 0 (IntKind.u64.wrap (IntKind.u64.wrap ((s[1].toNat : Nat) : Int) * 256)) = ((q 1 : Nat) : Int) := by have z := hq 1 g1; rw [qn] at z; exact z
  have e0 : bits .or .u64 ((q 1 : Nat) : Int) (IntKind.u64.wrap ((s[0].toNat : Nat) : Int)) = ((q 0 : Nat) : Int) := hq0 hq g0
  have hi : (s.size : Int) = 2 := by omega
  generalize q 0 = p0 at *
  generalize q 1 = p1 at *
  have HQ := Lib.hid q0
  clear q0 qn hq h q
  go_enter Try.func14, Try.ntmps14
  go_wp2
  go_ret
  exact ⟨ret_int (by rw [← HQ.out]), rfl⟩

set_option maxRecDepth 100000 in
set_option maxHeartbeats 1000000 in
theorem word_3 (s : ByteArray) (w : World) (h : s.size = 3) :
    Calls Try.prog 14 #[.string s] w fun e w' => e = .returned (.int .u64 (le s.data.toList)) ∧ w = w' := by
  obtain ⟨q, q0, qn, hq⟩ := word_chain s (by omega)
  rw [h] at qn
  have g2 : 2 < s.size := by omega
  have g1 : 1 < s.size := by omega
  have g0 : 0 < s.size := by omega
  have e2 : bits .or .u64 0 (IntKind.u64.wrap (IntKind.u64.wrap ((s[2].toNat : Nat) : Int) * 65536)) = ((q 2 : Nat) : Int) := by have z := hq 2 g2; rw [qn] at z; exact z
  have e1 : bits .or .u64 ((q 2 : Nat) : Int) (IntKind.u64.wrap (IntKind.u64.wrap ((s[1].toNat : Nat) : Int) * 256)) = ((q 1 : Nat) : Int) := hq 1 g1
  have e0 : bits .or .u64 ((q 1 : Nat) : Int) (IntKind.u64.wrap ((s[0].toNat : Nat) : Int)) = ((q 0 : Nat) : Int) := hq0 hq g0
  have hi : (s.size : Int) = 3 := by omega
  generalize q 0 = p0 at *
  generalize q 1 = p1 at *
  generalize q 2 = p2 at *
  have HQ := Lib.hid q0
  clear q0 qn hq h q
  go_enter Try.func14, Try.ntmps14
  go_wp2
  go_ret
  exact ⟨ret_int (by rw [← HQ.out]), rfl⟩

set_option maxRecDepth 100000 in
set_option maxHeartbeats 1000000 in
theorem word_4 (s : ByteArray) (w : World) (h : s.size = 4) :
    Calls Try.prog 14 #[.string s] w fun e w' => e = .returned (.int .u64 (le s.data.toList)) ∧ w = w' := by
  obtain ⟨q, q0, qn, hq⟩ := word_chain s (by omega)
  rw [h] at qn
  have g3 : 3 < s.size := by omega
  have g2 : 2 < s.size := by omega
  have g1 : 1 < s.size := by omega
  have g0 : 0 < s.size := by omega
  have e3 : bits .or .u64 0 (IntKind.u64.wrap (IntKind.u64.wrap ((s[3].toNat : Nat) : Int) * 16777216)) = ((q 3 : Nat) : Int) := by have z := hq 3 g3; rw [qn] at z; exact z
  have e2 : bits .or .u64 ((q 3 : Nat) : Int) (IntKind.u64.wrap (IntKind.u64.wrap ((s[2].toNat : Nat) : Int) * 65536)) = ((q 2 : Nat) : Int) := hq 2 g2
  have e1 : bits .or .u64 ((q 2 : Nat) : Int) (IntKind.u64.wrap (IntKind.u64.wrap ((s[1].toNat : Nat) : Int) * 256)) = ((q 1 : Nat) : Int) := hq 1 g1
  have e0 : bits .or .u64 ((q 1 : Nat) : Int) (IntKind.u64.wrap ((s[0].toNat : Nat) : Int)) = ((q 0 : Nat) : Int) := hq0 hq g0
  have hi : (s.size : Int) = 4 := by omega
  generalize q 0 = p0 at *
  generalize q 1 = p1 at *
  generalize q 2 = p2 at *
  generalize q 3 = p3 at *
  have HQ := Lib.hid q0
  clear q0 qn hq h q
  go_enter Try.func14, Try.ntmps14
  go_wp2
  go_ret
  exact ⟨ret_int (by rw [← HQ.out]), rfl⟩

set_option maxRecDepth 100000 in
set_option maxHeartbeats 1000000 in
theorem word_5 (s : ByteArray) (w : World) (h : s.size = 5) :
    Calls Try.prog 14 #[.string s] w fun e w' => e = .returned (.int .u64 (le s.data.toList)) ∧ w = w' := by
  obtain ⟨q, q0, qn, hq⟩ := word_chain s (by omega)
  rw [h] at qn
  have g4 : 4 < s.size := by omega
  have g3 : 3 < s.size := by omega
  have g2 : 2 < s.size := by omega
  have g1 : 1 < s.size := by omega
  have g0 : 0 < s.size := by omega
  have e4 : bits .or .u64 0 (IntKind.u64.wrap (IntKind.u64.wrap ((s[4].toNat : Nat) : Int) * 4294967296)) = ((q 4 : Nat) : Int) := by have z := hq 4 g4; rw [qn] at z; exact z
  have e3 : bits .or .u64 ((q 4 : Nat) : Int) (IntKind.u64.wrap (IntKind.u64.wrap ((s[3].toNat : Nat) : Int) * 16777216)) = ((q 3 : Nat) : Int) := hq 3 g3
  have e2 : bits .or .u64 ((q 3 : Nat) : Int) (IntKind.u64.wrap (IntKind.u64.wrap ((s[2].toNat : Nat) : Int) * 65536)) = ((q 2 : Nat) : Int) := hq 2 g2
  have e1 : bits .or .u64 ((q 2 : Nat) : Int) (IntKind.u64.wrap (IntKind.u64.wrap ((s[1].toNat : Nat) : Int) * 256)) = ((q 1 : Nat) : Int) := hq 1 g1
  have e0 : bits .or .u64 ((q 1 : Nat) : Int) (IntKind.u64.wrap ((s[0].toNat : Nat) : Int)) = ((q 0 : Nat) : Int) := hq0 hq g0
  have hi : (s.size : Int) = 5 := by omega
  generalize q 0 = p0 at *
  generalize q 1 = p1 at *
  generalize q 2 = p2 at *
  generalize q 3 = p3 at *
  generalize q 4 = p4 at *
  have HQ := Lib.hid q0
  clear q0 qn hq h q
  go_enter Try.func14, Try.ntmps14
  go_wp2
  go_ret
  exact ⟨ret_int (by rw [← HQ.out]), rfl⟩

set_option maxRecDepth 100000 in
set_option maxHeartbeats 1000000 in
theorem word_6 (s : ByteArray) (w : World) (h : s.size = 6) :
    Calls Try.prog 14 #[.string s] w fun e w' => e = .returned (.int .u64 (le s.data.toList)) ∧ w = w' := by
  obtain ⟨q, q0, qn, hq⟩ := word_chain s (by omega)
  rw [h] at qn
  have g5 : 5 < s.size := by omega
  have g4 : 4 < s.size := by omega
  have g3 : 3 < s.size := by omega
  have g2 : 2 < s.size := by omega
  have g1 : 1 < s.size := by omega
  have g0 : 0 < s.size := by omega
  have e5 : bits .or .u64 0 (IntKind.u64.wrap (IntKind.u64.wrap ((s[5].toNat : Nat) : Int) * 1099511627776)) = ((q 5 : Nat) : Int) := by have z := hq 5 g5; rw [qn] at z; exact z
  have e4 : bits .or .u64 ((q 5 : Nat) : Int) (IntKind.u64.wrap (IntKind.u64.wrap ((s[4].toNat : Nat) : Int) * 4294967296)) = ((q 4 : Nat) : Int) := hq 4 g4
  have e3 : bits .or .u64 ((q 4 : Nat) : Int) (IntKind.u64.wrap (IntKind.u64.wrap ((s[3].toNat : Nat) : Int) * 16777216)) = ((q 3 : Nat) : Int) := hq 3 g3
  have e2 : bits .or .u64 ((q 3 : Nat) : Int) (IntKind.u64.wrap (IntKind.u64.wrap ((s[2].toNat : Nat) : Int) * 65536)) = ((q 2 : Nat) : Int) := hq 2 g2
  have e1 : bits .or .u64 ((q 2 : Nat) : Int) (IntKind.u64.wrap (IntKind.u64.wrap ((s[1].toNat : Nat) : Int) * 256)) = ((q 1 : Nat) : Int) := hq 1 g1
  have e0 : bits .or .u64 ((q 1 : Nat) : Int) (IntKind.u64.wrap ((s[0].toNat : Nat) : Int)) = ((q 0 : Nat) : Int) := hq0 hq g0
  have hi : (s.size : Int) = 6 := by omega
  generalize q 0 = p0 at *
  generalize q 1 = p1 at *
  generalize q 2 = p2 at *
  generalize q 3 = p3 at *
  generalize q 4 = p4 at *
  generalize q 5 = p5 at *
  have HQ := Lib.hid q0
  clear q0 qn hq h q
  go_enter Try.func14, Try.ntmps14
  go_wp2
  go_ret
  exact ⟨ret_int (by rw [← HQ.out]), rfl⟩

set_option maxRecDepth 100000 in
set_option maxHeartbeats 1000000 in
theorem word_7 (s : ByteArray) (w : World) (h : s.size = 7) :
    Calls Try.prog 14 #[.string s] w fun e w' => e = .returned (.int .u64 (le s.data.toList)) ∧ w = w' := by
  obtain ⟨q, q0, qn, hq⟩ := word_chain s (by omega)
  rw [h] at qn
  have g6 : 6 < s.size := by omega
  have g5 : 5 < s.size := by omega
  have g4 : 4 < s.size := by omega
  have g3 : 3 < s.size := by omega
  have g2 : 2 < s.size := by omega
  have g1 : 1 < s.size := by omega
  have g0 : 0 < s.size := by omega
  have e6 : bits .or .u64 0 (IntKind.u64.wrap (IntKind.u64.wrap ((s[6].toNat : Nat) : Int) * 281474976710656)) = ((q 6 : Nat) : Int) := by have z := hq 6 g6; rw [qn] at z; exact z
  have e5 : bits .or .u64 ((q 6 : Nat) : Int) (IntKind.u64.wrap (IntKind.u64.wrap ((s[5].toNat : Nat) : Int) * 1099511627776)) = ((q 5 : Nat) : Int) := hq 5 g5
  have e4 : bits .or .u64 ((q 5 : Nat) : Int) (IntKind.u64.wrap (IntKind.u64.wrap ((s[4].toNat : Nat) : Int) * 4294967296)) = ((q 4 : Nat) : Int) := hq 4 g4
  have e3 : bits .or .u64 ((q 4 : Nat) : Int) (IntKind.u64.wrap (IntKind.u64.wrap ((s[3].toNat : Nat) : Int) * 16777216)) = ((q 3 : Nat) : Int) := hq 3 g3
  have e2 : bits .or .u64 ((q 3 : Nat) : Int) (IntKind.u64.wrap (IntKind.u64.wrap ((s[2].toNat : Nat) : Int) * 65536)) = ((q 2 : Nat) : Int) := hq 2 g2
  have e1 : bits .or .u64 ((q 2 : Nat) : Int) (IntKind.u64.wrap (IntKind.u64.wrap ((s[1].toNat : Nat) : Int) * 256)) = ((q 1 : Nat) : Int) := hq 1 g1
  have e0 : bits .or .u64 ((q 1 : Nat) : Int) (IntKind.u64.wrap ((s[0].toNat : Nat) : Int)) = ((q 0 : Nat) : Int) := hq0 hq g0
  have hi : (s.size : Int) = 7 := by omega
  generalize q 0 = p0 at *
  generalize q 1 = p1 at *
  generalize q 2 = p2 at *
  generalize q 3 = p3 at *
  generalize q 4 = p4 at *
  generalize q 5 = p5 at *
  generalize q 6 = p6 at *
  have HQ := Lib.hid q0
  clear q0 qn hq h q
  go_enter Try.func14, Try.ntmps14
  go_wp2
  go_ret
  exact ⟨ret_int (by rw [← HQ.out]), rfl⟩

set_option maxRecDepth 100000 in
set_option maxHeartbeats 1000000 in
theorem word_8 (s : ByteArray) (w : World) (h : s.size = 8) :
    Calls Try.prog 14 #[.string s] w fun e w' => e = .returned (.int .u64 (le s.data.toList)) ∧ w = w' := by
  obtain ⟨q, q0, qn, hq⟩ := word_chain s (by omega)
  rw [h] at qn
  have g7 : 7 < s.size := by omega
  have g6 : 6 < s.size := by omega
  have g5 : 5 < s.size := by omega
  have g4 : 4 < s.size := by omega
  have g3 : 3 < s.size := by omega
  have g2 : 2 < s.size := by omega
  have g1 : 1 < s.size := by omega
  have g0 : 0 < s.size := by omega
  have e7 : bits .or .u64 0 (IntKind.u64.wrap (IntKind.u64.wrap ((s[7].toNat : Nat) : Int) * 72057594037927936)) = ((q 7 : Nat) : Int) := by have z := hq 7 g7; rw [qn] at z; exact z
  have e6 : bits .or .u64 ((q 7 : Nat) : Int) (IntKind.u64.wrap (IntKind.u64.wrap ((s[6].toNat : Nat) : Int) * 281474976710656)) = ((q 6 : Nat) : Int) := hq 6 g6
  have e5 : bits .or .u64 ((q 6 : Nat) : Int) (IntKind.u64.wrap (IntKind.u64.wrap ((s[5].toNat : Nat) : Int) * 1099511627776)) = ((q 5 : Nat) : Int) := hq 5 g5
  have e4 : bits .or .u64 ((q 5 : Nat) : Int) (IntKind.u64.wrap (IntKind.u64.wrap ((s[4].toNat : Nat) : Int) * 4294967296)) = ((q 4 : Nat) : Int) := hq 4 g4
  have e3 : bits .or .u64 ((q 4 : Nat) : Int) (IntKind.u64.wrap (IntKind.u64.wrap ((s[3].toNat : Nat) : Int) * 16777216)) = ((q 3 : Nat) : Int) := hq 3 g3
  have e2 : bits .or .u64 ((q 3 : Nat) : Int) (IntKind.u64.wrap (IntKind.u64.wrap ((s[2].toNat : Nat) : Int) * 65536)) = ((q 2 : Nat) : Int) := hq 2 g2
  have e1 : bits .or .u64 ((q 2 : Nat) : Int) (IntKind.u64.wrap (IntKind.u64.wrap ((s[1].toNat : Nat) : Int) * 256)) = ((q 1 : Nat) : Int) := hq 1 g1
  have e0 : bits .or .u64 ((q 1 : Nat) : Int) (IntKind.u64.wrap ((s[0].toNat : Nat) : Int)) = ((q 0 : Nat) : Int) := hq0 hq g0
  have hi : (s.size : Int) = 8 := by omega
  generalize q 0 = p0 at *
  generalize q 1 = p1 at *
  generalize q 2 = p2 at *
  generalize q 3 = p3 at *
  generalize q 4 = p4 at *
  generalize q 5 = p5 at *
  generalize q 6 = p6 at *
  generalize q 7 = p7 at *
  have HQ := Lib.hid q0
  clear q0 qn hq h q
  go_enter Try.func14, Try.ntmps14
  go_wp2
  go_ret
  exact ⟨ret_int (by rw [← HQ.out]), rfl⟩


theorem word_any (s : ByteArray) (w : World) (h : s.size ≤ 8) :
    Calls Try.prog 14 #[.string s] w fun e w' => e = .returned (.int .u64 (le s.data.toList)) ∧ w = w' := by
  by_cases h0 : s.size = 0
  · exact word_0 s w h0
  by_cases h1 : s.size = 1
  · exact word_1 s w h1
  by_cases h2 : s.size = 2
  · exact word_2 s w h2
  by_cases h3 : s.size = 3
  · exact word_3 s w h3
  by_cases h4 : s.size = 4
  · exact word_4 s w h4
  by_cases h5 : s.size = 5
  · exact word_5 s w h5
  by_cases h6 : s.size = 6
  · exact word_6 s w h6
  by_cases h7 : s.size = 7
  · exact word_7 s w h7
  exact word_8 s w (by omega)

end Go.Proofs.Ytopfmibnabkbiaa
