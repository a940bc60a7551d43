/-
  The walks of awake and of TwigAbove: the law returns true at every three strings.
-/
import Derived.Test.YtcalklfkihjipaaAbove
namespace Go.Proofs.Ytcalklfkihjipaa
open Go.RowKit
set_option linter.unusedVariables false

theorem below_drewN {B : Nat} {a w : World} (h : Below B a w) (n : Nat) : Below B a (w.drewN n) := ⟨h.os, h.tape, h.output, h.size, h.block⟩

theorem tabove_some (s : ByteArray) (u : List UInt8) (w : World) (hs : s.size ≤ 1000) (h : above s.data.toList = some u) :
    Calls Try.prog 10 #[.string s] w fun e w' => e = .returned (.tuple #[.string (ofL u), .bool true]) ∧ Below w.heap.size w w' :=
  (tabove_any s w hs).mono fun e w' ⟨he, hb⟩ => by rw [h] at he; exact ⟨he, hb⟩
theorem tabove_none (s : ByteArray) (w : World) (hs : s.size ≤ 1000) (h : above s.data.toList = none) :
    Calls Try.prog 10 #[.string s] w fun e w' => e = .returned (.tuple #[.string ByteArray.empty, .bool false]) ∧ Below w.heap.size w w' :=
  (tabove_any s w hs).mono fun e w' ⟨he, hb⟩ => by rw [h] at he; exact ⟨he, hb⟩
theorem rabove_some (s : ByteArray) (u : List UInt8) (w : World) (hs : s.size ≤ 1000) (h : above s.data.toList = some u) :
    Calls Try.prog 11 #[.string s] w fun e w' => e = .returned (.tuple #[.string (ofL u), .bool true]) ∧ Below w.heap.size w w' :=
  (rabove_any _ s w rfl hs).mono fun e w' ⟨he, hb⟩ => by rw [h] at he; exact ⟨he, hb⟩
theorem rabove_none (s : ByteArray) (w : World) (hs : s.size ≤ 1000) (h : above s.data.toList = none) :
    Calls Try.prog 11 #[.string s] w fun e w' => e = .returned (.tuple #[.string ByteArray.empty, .bool false]) ∧ Below w.heap.size w w' :=
  (rabove_any _ s w rfl hs).mono fun e w' ⟨he, hb⟩ => by rw [h] at he; exact ⟨he, hb⟩

theorem tcommon_b (a b : ByteArray) (w : World) (ha : a.size ≤ 1000) (hb : b.size ≤ 1000) :
    Calls Try.prog 16 #[.string a, .string b] w fun e w' => e = .returned (.int .i64 (com a.data.toList b.data.toList)) ∧ Below w.heap.size w w' :=
  (tcommon_any a b w ha hb).mono fun e w' ⟨he, n, hn⟩ => ⟨he, hn ▸ below_drewN (Below.refl _ _) n⟩
theorem less_b (a b : ByteArray) (x : Bool) (w : World) (ha : a.size ≤ 1000) (hb : b.size ≤ 1000) (h : lt a b = x) :
    Calls Try.prog 12 #[.string a, .string b] w fun e w' => e = .returned (.bool x) ∧ Below w.heap.size w w' :=
  (less_any a b w ha hb).mono fun e w' ⟨he, n, hn⟩ => ⟨h ▸ he, hn ▸ below_drewN (Below.refl _ _) n⟩
theorem rbegins_b (a b : ByteArray) (x : Bool) (w : World) (ha : a.size ≤ 1000) (h : beg a b = x) :
    Calls Try.prog 13 #[.string a, .string b] w fun e w' => e = .returned (.bool x) ∧ Below w.heap.size w w' :=
  (rbegins_any a b w ha).mono fun e w' ⟨he, n, hn⟩ => ⟨h ▸ he, hn ▸ below_drewN (Below.refl _ _) n⟩
theorem rbetween_b (s f t : ByteArray) (x : Bool) (w : World) (hs : s.size ≤ 1000) (hf : f.size ≤ 1000) (ht : t.size ≤ 1000) (h : btw s f t = x) :
    Calls Try.prog 14 #[.string s, .string f, .string t] w fun e w' => e = .returned (.bool x) ∧ Below w.heap.size w w' :=
  (rbetween_any s f t w hs hf ht).mono fun e w' ⟨he, n, hn⟩ => ⟨h ▸ he, hn ▸ below_drewN (Below.refl _ _) n⟩

set_option maxHeartbeats 400000 in
theorem awake_any (w : World) : Calls Try.prog 8 #[] w fun e w' => e = .returned (.bool true) ∧ Below w.heap.size w w' := by
  go_enter Try.func8, Try.ntmps8
  go_wp2_with fail
  refine (tabove_some _ [98] _ (by decide) (by decide)).mono ?_
  rintro e w1 ⟨rfl, hb1⟩
  go_wp2_with fail
  refine (tcommon_b _ _ _ (by decide) (by decide)).mono ?_
  rintro e w2 ⟨rfl, hb2⟩
  have e2 : com (ByteArray.mk #[97, 98, 99]).data.toList (ByteArray.mk #[97, 98, 100]).data.toList = 2 := by decide
  rw [e2]
  go_wp2
  go_ret
  exact ⟨ret_bool (by rw [Lib.toList_data]; rfl), hb1.trans (hb2.mono hb1.size)⟩

/-- the plain law, of strings -/
theorem law_above (s o : ByteArray) : above s.data.toList = none → lt o s = true ∨ beg o s = true := fun h => by
  rcases above_none _ h o.data.toList with g | g
  · exact .inl g
  · right; unfold beg; simp [g]
theorem law_more (s m : ByteArray) (u : List UInt8) (h : above s.data.toList = some u) : lt (s ++ m) (ofL u) = true := by
  unfold lt ofL
  rw [ByteArray.data_append, Array.toList_append]
  exact above_less _ _ _ h
theorem law_between (s o : ByteArray) (u : List UInt8) (h : above s.data.toList = some u) : beg o s = btw o s (ofL u) := by
  show (com o.data.toList s.data.toList == s.data.toList.length) = (!Op.bytesLess o.data.toList s.data.toList && Op.bytesLess o.data.toList u)
  exact above_between _ _ _ h

theorem ofL_size (s : ByteArray) (u : List UInt8) (h : above s.data.toList = some u) : (ofL u).size ≤ s.size := by
  have := above_len _ _ h
  rw [len_list] at this
  rw [← len_list (ofL u)]
  exact this

set_option maxHeartbeats 1000000 in
theorem above_walk (a0 a1 a2 : ByteArray) (w : World) :
    Calls Try.prog 3 #[.string a0, .string a1, .string a2] w fun e w' => e = .returned (.bool true) ∧ Below w.heap.size w w' := by
  have z0 := fewB_size a0
  have z1 := fewB_size a1
  have z2 := fewB_size a2
  cases hu : above (fewB a0).data.toList with
  | none =>
    have hl := law_above (fewB a0) (fewB a2) hu
    go_enter Try.func3, Try.ntmps3
    go_wp2_with fail
    refine (awake_any _).mono ?_
    rintro e w1 ⟨rfl, hb1⟩
    go_wp2_with (go_at_call 9; refine (few_any _ _).mono ?_; rintro e w' ⟨rfl, rfl⟩)
    refine (tabove_none _ _ (by omega) hu).mono ?_
    rintro e w2 ⟨rfl, hb2⟩
    go_wp2_with fail
    refine (rabove_none _ _ (by omega) hu).mono ?_
    rintro e w3 ⟨rfl, hb3⟩
    have hb : Below w.heap.size w w3 := (hb1.trans (hb2.mono hb1.size)).trans (hb3.mono (Nat.le_trans hb1.size hb2.size))
    clear hb1 hb2 hb3
    cases hlt : lt (fewB a2) (fewB a0)
    · have hbg : beg (fewB a2) (fewB a0) = true := by simpa [hlt] using hl
      go_wp2_with fail
      refine (less_b _ _ false _ (by omega) (by omega) hlt).mono ?_
      rintro e w4 ⟨rfl, hb4⟩
      go_wp2_with fail
      refine (rbegins_b _ _ true _ (by omega) hbg).mono ?_
      rintro e w5 ⟨rfl, hb5⟩
      go_wp2
      go_ret
      exact ⟨rfl, (hb.trans (hb4.mono hb.size)).trans (hb5.mono (Nat.le_trans hb.size hb4.size))⟩
    · go_wp2_with fail
      refine (less_b _ _ true _ (by omega) (by omega) hlt).mono ?_
      rintro e w4 ⟨rfl, hb4⟩
      go_wp2
      go_ret
      exact ⟨rfl, hb.trans (hb4.mono hb.size)⟩
  | some u =>
    have hl := law_more (fewB a0) (fewB a1) u hu
    have hb' := law_between (fewB a0) (fewB a2) u hu
    have zu := ofL_size _ _ hu
    go_enter Try.func3, Try.ntmps3
    go_wp2_with fail
    refine (awake_any _).mono ?_
    rintro e w1 ⟨rfl, hb1⟩
    go_wp2_with (go_at_call 9; refine (few_any _ _).mono ?_; rintro e w' ⟨rfl, rfl⟩)
    refine (tabove_some _ u _ (by omega) hu).mono ?_
    rintro e w2 ⟨rfl, hb2⟩
    go_wp2_with fail
    refine (rabove_some _ u _ (by omega) hu).mono ?_
    rintro e w3 ⟨rfl, hb3⟩
    have hb : Below w.heap.size w w3 := (hb1.trans (hb2.mono hb1.size)).trans (hb3.mono (Nat.le_trans hb1.size hb2.size))
    clear hb1 hb2 hb3
    have hcat : ∀ W : World, (Op.stringOp .add (fewB a0) (fewB a1)).run Try.prog W = .ok (.string (fewB a0 ++ fewB a1)) W := fun W =>
      run_string_add_sum W _ _ (by omega)
    have zc : (fewB a0 ++ fewB a1).size ≤ 1000 := by rw [ByteArray.size_append]; omega
    have HU := Lib.hid hu
    clear hu
    cases hbg : beg (fewB a2) (fewB a0)
    all_goals
      rw [hbg] at hb'
      have HB := Lib.hid hb'.symm
      have HG := Lib.hid hbg
      have HL := Lib.hid hl
      clear hb' hbg hl
      go_wp2_with fail
      refine (less_b _ _ true _ zc (by omega) HL.out).mono ?_
      rintro e w4 ⟨rfl, hb4⟩
      go_wp2_with fail
      refine (rbegins_b _ _ _ _ (by omega) HG.out).mono ?_
      rintro e w5 ⟨rfl, hb5⟩
      go_wp2_with fail
      refine (rbetween_b _ _ _ _ _ (by omega) (by omega) (by omega) HB.out).mono ?_
      rintro e w6 ⟨rfl, hb6⟩
      go_wp2
      go_ret
      exact ⟨rfl, ((hb.trans (hb4.mono hb.size)).trans (hb5.mono (Nat.le_trans hb.size hb4.size))).trans (hb6.mono (Nat.le_trans (Nat.le_trans hb.size hb4.size) hb5.size))⟩

end Go.Proofs.Ytcalklfkihjipaa
