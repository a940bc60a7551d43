/-
  The walks of few, Less, Common, Begins, Between and Cut: what each computes, as a function on lists of bytes.
-/
import Derived.Test.YtcalklfkihjipaaRows
import Derived.Test.YtcalklfkihjipaaPlain
import Derived.WalkKit
import Derived.WalkSpells
import Derived.WalkLawsBesides
import Derived.Deep.QuietTactic
import Derived.BigQuiet
import Derived.Lib.Hide
import Derived.Lib.Strings
namespace Go.Proofs.Ytcalklfkihjipaa
open Go.RowKit
set_option linter.unusedVariables false

/-- a string, not too long -/
def fewB (s : ByteArray) : ByteArray := s.extract 0 (min s.size 60)

theorem fewB_size (s : ByteArray) : (fewB s).size ≤ 60 := by
  unfold fewB; rw [ByteArray.size_extract]; omega

set_option maxHeartbeats 400000 in
theorem few_any (s : ByteArray) (w : World) :
    Calls Try.prog 9 #[.string s] w fun e w' => e = .returned (.string (fewB s)) ∧ w' = w := by
  go_enter Try.func9, Try.ntmps9
  go_wp2
  all_goals go_ret
  · refine ⟨?_, rfl⟩
    show Ending.returned (Value.string (s.extract 0 60)) = _
    unfold fewB; rw [Nat.min_eq_right (by omega)]
  · refine ⟨?_, rfl⟩
    show Ending.returned (Value.string s) = _
    unfold fewB; rw [Nat.min_eq_left (by omega), ByteArray.extract_zero_size]

theorem ret_int {k : IntKind} {a b : Int} (h : a = b) : Ending.returned (.int k a) = .returned (.int k b) := by rw [h]
theorem ret_bool {a b : Bool} (h : a = b) : Ending.returned (.bool a) = .returned (.bool b) := by rw [h]

theorem drew_one (w : World) (n : Nat) : ∃ m, w.drewN n = w.drewN m := ⟨n, rfl⟩
theorem drew_two (w : World) (n q : Nat) : ∃ m, (w.drewN n).drewN q = w.drewN m := ⟨n + q, World.drewN_drewN w n q⟩
theorem drew_three (w : World) (n q r : Nat) : ∃ m, ((w.drewN n).drewN q).drewN r = w.drewN m := ⟨n + (q + r), by rw [World.drewN_drewN, World.drewN_drewN]⟩
theorem bne_of_beq_false {x y : Int} (h : (x == y) = false) : (x != y) = true := by simp [bne, h]
theorem bne_of_beq_true {x y : Int} (h : (x == y) = true) : (x != y) = false := by simp [bne, h]

set_option maxHeartbeats 1000000 in
/-- twig.Common: how far two go together -/
theorem tcommon_any (a b : ByteArray) (w : World) (ha : a.size ≤ 1000) (hb : b.size ≤ 1000) :
    Calls Try.prog 16 #[.string a, .string b] w fun e w' => e = .returned (.int .i64 (com a.data.toList b.data.toList)) ∧ ∃ n, w' = w.drewN n := by
  go_enter Try.func16, Try.ntmps16
  by_cases hab : b.size < a.size
  · go_wp2
    go_loopw [13] (fun i wr => ∃ k n : Nat, i = .int .i64 k ∧ k ≤ b.size ∧ k ≤ com a.data.toList b.data.toList ∧ wr = w.drewN n) (fun i _ => b.size - (intOf i).toNat)
    case atStart => exact ⟨0, 0, rfl, by omega, by omega, rfl⟩
    case round =>
      obtain ⟨k, n, rfl, hk, hkc, rfl⟩ := hrel
      by_cases hlt : k < b.size
      · have hla : k < a.size := by omega
        go_wp2
        go_quiet (fail)
        go_wp2
        · go_ret
          exact ⟨ret_int (by rw [com_here a b k hla hlt hkc (by assumption)]), drew_two _ _ _⟩
        · have g := com_on a b k hla hlt hkc (by assumption)
          go_roundw
          case rel => exact ⟨k + 1, _, by go_num, by omega, g, rfl⟩
          case measure => simp [intOf]; omega
      · go_wp2
        go_ret
        exact ⟨ret_int (by rw [com_end_right a b b.size (by omega) (by omega)]), drew_one _ _⟩
  · go_wp2
    go_loopw [13] (fun i wr => ∃ k n : Nat, i = .int .i64 k ∧ k ≤ a.size ∧ k ≤ com a.data.toList b.data.toList ∧ wr = w.drewN n) (fun i _ => a.size - (intOf i).toNat)
    case atStart => exact ⟨0, 0, rfl, by omega, by omega, rfl⟩
    case round =>
      obtain ⟨k, n, rfl, hk, hkc, rfl⟩ := hrel
      by_cases hla : k < a.size
      · have hlt : k < b.size := by omega
        go_wp2
        go_quiet (fail)
        go_wp2
        · go_ret
          exact ⟨ret_int (by rw [com_here a b k hla hlt hkc (by assumption)]), drew_two _ _ _⟩
        · have g := com_on a b k hla hlt hkc (by assumption)
          go_roundw
          case rel => exact ⟨k + 1, _, by go_num, by omega, g, rfl⟩
          case measure => simp [intOf]; omega
      · go_wp2
        go_ret
        exact ⟨ret_int (by rw [com_end_left a b a.size (by omega) (by omega)]), drew_one _ _⟩

set_option maxHeartbeats 1000000 in
/-- the reference's Common: the same -/
theorem rcommon_any (a b : ByteArray) (w : World) (ha : a.size ≤ 1000) :
    Calls Try.prog 19 #[.string a, .string b] w fun e w' => e = .returned (.int .i64 (com a.data.toList b.data.toList)) ∧ ∃ n, w' = w.drewN n := by
  go_enter Try.func19, Try.ntmps19
  go_wp2
  go_loopw [5] (fun i wr => ∃ k n : Nat, i = .int .i64 k ∧ k ≤ a.size ∧ k ≤ com a.data.toList b.data.toList ∧ wr = w.drewN n) (fun i _ => a.size - (intOf i).toNat)
  case atStart => exact ⟨0, 0, rfl, by omega, by omega, rfl⟩
  case round =>
    obtain ⟨k, n, rfl, hk, hkc, rfl⟩ := hrel
    by_cases hla : k < a.size
    · have d1 : decide ((k : Int) < (a.size : Int)) = true := by simpa using hla
      by_cases hlt : k < b.size
      · have d2 : decide ((k : Int) < (b.size : Int)) = true := by simpa using hlt
        go_wp2
        go_quiet (fail)
        go_wp2
        · have g := com_on a b k hla hlt hkc (bne_of_beq_true (by assumption))
          go_roundw
          case rel => exact ⟨k + 1, _, by go_num, by omega, g, rfl⟩
          case measure => simp [intOf]; omega
        · go_ret
          exact ⟨ret_int (by rw [com_here a b k hla hlt hkc (bne_of_beq_false (by assumption))]), drew_two _ _ _⟩
      · have d2 : decide ((k : Int) < (b.size : Int)) = false := by simpa using hlt
        go_wp2
        go_quiet (fail)
        go_wp2
        go_ret
        exact ⟨ret_int (by rw [com_end_right a b k (by omega) hkc]), drew_two _ _ _⟩
    · have d1 : decide ((k : Int) < (a.size : Int)) = false := by simpa using hla
      go_wp2
      go_quiet (fail)
      go_wp2
      go_ret
      exact ⟨ret_int (by rw [com_end_left a b k (by omega) hkc]), drew_two _ _ _⟩

/-- is a less than b, byte by byte -/
def lt (a b : ByteArray) : Bool := Op.bytesLess a.data.toList b.data.toList
/-- does a begin with b -/
def beg (a b : ByteArray) : Bool := com a.data.toList b.data.toList == b.data.toList.length

set_option maxHeartbeats 1000000 in
/-- the reference's Less: byte by byte -/
theorem less_any (a b : ByteArray) (w : World) (ha : a.size ≤ 1000) (hb : b.size ≤ 1000) :
    Calls Try.prog 12 #[.string a, .string b] w fun e w' => e = .returned (.bool (lt a b)) ∧ ∃ n, w' = w.drewN n := by
  go_enter Try.func12, Try.ntmps12
  go_wp2
  go_loopw [5] (fun i wr => ∃ k n : Nat, i = .int .i64 k ∧ k ≤ a.size ∧ k ≤ com a.data.toList b.data.toList ∧ wr = w.drewN n) (fun i _ => a.size - (intOf i).toNat)
  case atStart => exact ⟨0, 0, rfl, by omega, by omega, rfl⟩
  case round =>
    obtain ⟨k, n, rfl, hk, hkc, rfl⟩ := hrel
    by_cases hla : k < a.size
    · have d1 : decide ((k : Int) < (a.size : Int)) = true := by simpa using hla
      by_cases hlt : k < b.size
      · have d2 : decide ((k : Int) < (b.size : Int)) = true := by simpa using hlt
        go_wp2
        go_quiet (fail)
        go_wp2
        · go_quiet (fail)
          go_wp2
          go_ret
          refine ⟨ret_bool ?_, drew_three _ _ _ _⟩
          exact (less_here_nat a b k hla hlt (com_here a b k hla hlt hkc (by assumption))).symm
        · have g := com_on a b k hla hlt hkc (by assumption)
          go_roundw
          case rel => exact ⟨k + 1, _, by go_num, by omega, g, rfl⟩
          case measure => simp [intOf]; omega
      · have d2 : decide ((k : Int) < (b.size : Int)) = false := by simpa using hlt
        go_wp2
        go_ret
        refine ⟨ret_bool ?_, drew_one _ _⟩
        refine (less_end_nat a b (.inr ?_)).symm
        have := com_end_right a b k (by omega) hkc
        have := com_end_right a b b.size (by omega) (by omega)
        omega
    · have d1 : decide ((k : Int) < (a.size : Int)) = false := by simpa using hla
      go_wp2
      go_ret
      refine ⟨ret_bool ?_, drew_one _ _⟩
      exact (less_end_nat a b (.inl (com_end_left a b a.size (by omega) (by omega)))).symm

set_option maxHeartbeats 400000 in
/-- the reference's Begins -/
theorem rbegins_any (a b : ByteArray) (w : World) (ha : a.size ≤ 1000) :
    Calls Try.prog 13 #[.string a, .string b] w fun e w' => e = .returned (.bool (beg a b)) ∧ ∃ n, w' = w.drewN n := by
  go_enter Try.func13, Try.ntmps13
  go_wp2_with (go_at_call 19; refine (rcommon_any a b _ ha).mono ?_; rintro e w' ⟨rfl, n, rfl⟩)
  go_ret
  refine ⟨ret_bool ?_, _, rfl⟩
  unfold beg
  rw [len_list, Bool.eq_iff_iff]; simp; omega

set_option maxHeartbeats 400000 in
/-- strings.HasPrefix, by its text -/
theorem hasPrefix_any (a b : ByteArray) (w : World) :
    Calls Try.prog 21 #[.string a, .string b] w fun e w' => e = .returned (.bool (beg a b)) ∧ w' = w := by
  have e : beg a b = (decide (b.size ≤ a.size) && ((a.extract 0 b.size).toList == b.toList)) := by
    unfold beg; rw [begins_of, Lib.hasPrefix_raw]; rfl
  rw [e]
  go_enter Try.func21, Try.ntmps21
  go_wp2
  · go_ret
    have h : b.size ≤ a.size := by assumption
    refine ⟨ret_bool ?_, rfl⟩
    simp [h]
  · go_ret
    have h : ¬ b.size ≤ a.size := by assumption
    refine ⟨ret_bool ?_, rfl⟩
    simp [h]

set_option maxHeartbeats 400000 in
/-- twig.Begins -/
theorem tbegins_any (a b : ByteArray) (w : World) :
    Calls Try.prog 17 #[.string a, .string b] w fun e w' => e = .returned (.bool (beg a b)) ∧ w' = w := by
  go_enter Try.func17, Try.ntmps17
  go_wp2_with (go_at_call 21; refine (hasPrefix_any a b _).mono ?_; rintro e w' ⟨rfl, rfl⟩)
  go_ret
  exact ⟨rfl, rfl⟩

/-- does it lie between -/
def btw (s f t : ByteArray) : Bool := !lt s f && lt s t

set_option maxHeartbeats 400000 in
/-- the reference's Between -/
theorem rbetween_any (s f t : ByteArray) (w : World) (hs : s.size ≤ 1000) (hf : f.size ≤ 1000) (ht : t.size ≤ 1000) :
    Calls Try.prog 14 #[.string s, .string f, .string t] w fun e w' => e = .returned (.bool (btw s f t)) ∧ ∃ n, w' = w.drewN n := by
  cases h1 : lt s f
  · go_enter Try.func14, Try.ntmps14
    go_wp2_with fail
    refine (less_any s f _ hs hf).mono ?_
    rintro e w' ⟨rfl, n, rfl⟩
    rw [h1]
    go_wp2_with fail
    refine (less_any s t _ hs ht).mono ?_
    rintro e w' ⟨rfl, n, rfl⟩
    go_wp2
    go_ret
    refine ⟨ret_bool ?_, _, rfl⟩
    unfold btw; rw [h1]; rfl
  · go_enter Try.func14, Try.ntmps14
    go_wp2_with fail
    refine (less_any s f _ hs hf).mono ?_
    rintro e w' ⟨rfl, n, rfl⟩
    rw [h1]
    go_wp2
    go_ret
    refine ⟨ret_bool ?_, drew_one _ _⟩
    unfold btw; rw [h1]; rfl

set_option maxHeartbeats 400000 in
/-- twig.Between: Go's own order of strings -/
theorem tbetween_any (s f t : ByteArray) (w : World) :
    Calls Try.prog 15 #[.string s, .string f, .string t] w fun e w' => e = .returned (.bool (btw s f t)) ∧ w' = w := by
  cases h1 : Op.bytesLess s.toList f.toList
  · go_enter Try.func15, Try.ntmps15
    go_wp2
    go_ret
    refine ⟨ret_bool ?_, rfl⟩
    unfold btw lt; rw [← Lib.toList_data, ← Lib.toList_data, ← Lib.toList_data, h1]; rfl
  · go_enter Try.func15, Try.ntmps15
    go_wp2
    go_ret
    refine ⟨ret_bool ?_, rfl⟩
    unfold btw lt; rw [← Lib.toList_data, ← Lib.toList_data, ← Lib.toList_data, h1]; rfl

set_option maxHeartbeats 400000 in
/-- twig.Cut: begun so: what is behind -/
theorem tcut_yes (a b : ByteArray) (w : World) (h : beg a b = true) :
    Calls Try.prog 18 #[.string a, .string b] w fun e w' => e = .returned (.tuple #[.string (a.extract b.size a.size), .bool true]) ∧ w' = w := by
  have hle : b.size ≤ a.size := by
    unfold beg at h
    have h1 := com_le_left a.data.toList b.data.toList
    simp only [beq_iff_eq] at h
    rw [h, len_list, len_list] at h1; exact h1
  go_enter Try.func18, Try.ntmps18
  go_wp2_with fail
  refine (tbegins_any a b _).mono ?_
  rintro e w' ⟨rfl, rfl⟩
  rw [h]
  go_wp2
  go_ret2
  exact ⟨rfl, rfl⟩

set_option maxHeartbeats 400000 in
theorem tcut_no (a b : ByteArray) (w : World) (h : beg a b = false) :
    Calls Try.prog 18 #[.string a, .string b] w fun e w' => e = .returned (.tuple #[.string ByteArray.empty, .bool false]) ∧ w' = w := by
  go_enter Try.func18, Try.ntmps18
  go_wp2_with fail
  refine (tbegins_any a b _).mono ?_
  rintro e w' ⟨rfl, rfl⟩
  rw [h]
  go_wp2
  go_ret2
  exact ⟨rfl, rfl⟩

end Go.Proofs.Ytcalklfkihjipaa
