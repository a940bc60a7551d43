/-
  The walks of TwigBetween, TwigOrders and TwigCommon: each law returns true at every input.
-/
import Derived.Test.YtcalklfkihjipaaWalksA
namespace Go.Proofs.Ytcalklfkihjipaa
open Go.RowKit
set_option linter.unusedVariables false

/-- a contract from an elder world on -/
theorem on {f : FuncId} {args : Array Value} {w0 w : World} {r : Value} (hb : Below w0.heap.size w0 w)
    (h : Calls Try.prog f args w fun e w' => e = .returned r ∧ Below w.heap.size w w') :
    Calls Try.prog f args w fun e w' => e = .returned r ∧ Below w0.heap.size w0 w' :=
  h.mono fun e w' ⟨he, hb'⟩ => ⟨he, hb.trans (hb'.mono hb.size)⟩

theorem tbetween_b (s f t : ByteArray) (x : Bool) (w : World) (h : btw s f t = x) :
    Calls Try.prog 15 #[.string s, .string f, .string t] w fun e w' => e = .returned (.bool x) ∧ Below w.heap.size w w' :=
  (tbetween_any s f t w).mono fun e w' ⟨he, hw⟩ => ⟨h ▸ he, hw ▸ below_refl w⟩
theorem tbegins_b (a b : ByteArray) (x : Bool) (w : World) (h : beg a b = x) :
    Calls Try.prog 17 #[.string a, .string b] w fun e w' => e = .returned (.bool x) ∧ Below w.heap.size w w' :=
  (tbegins_any a b w).mono fun e w' ⟨he, hw⟩ => ⟨h ▸ he, hw ▸ below_refl w⟩
theorem few_b (s : ByteArray) (w : World) :
    Calls Try.prog 9 #[.string s] w fun e w' => e = .returned (.string (fewB s)) ∧ Below w.heap.size w w' :=
  (few_any s w).mono fun e w' ⟨he, hw⟩ => ⟨he, hw ▸ below_refl w⟩

theorem law_between_less (s f t : ByteArray) (h : btw s f t = true) : lt f t = true := by
  have h' : (!Op.bytesLess s.data.toList f.data.toList && Op.bytesLess s.data.toList t.data.toList) = true := h
  simp only [Bool.and_eq_true, Bool.not_eq_true'] at h'
  exact less_of _ _ _ h'.1 h'.2
theorem law_between_self (s f : ByteArray) : btw s f s = false := by
  show (!Op.bytesLess s.data.toList f.data.toList && Op.bytesLess s.data.toList s.data.toList) = false
  rw [less_irrefl, Bool.and_false]

set_option maxHeartbeats 1000000 in
theorem between_walk (a0 a1 a2 : ByteArray) (w : World) :
    Calls Try.prog 4 #[.string a0, .string a1, .string a2] w fun e w' => e = .returned (.bool true) ∧ Below w.heap.size w w' := by
  have z0 := fewB_size a0
  have z1 := fewB_size a1
  have z2 := fewB_size a2
  have HS := Lib.hid (law_between_self (fewB a0) (fewB a1))
  cases hu : btw (fewB a0) (fewB a1) (fewB a2)
  · have HU := Lib.hid hu
    clear hu
    go_enter Try.func4, Try.ntmps4
    go_wp2_with fail
    refine (awake_any _).mono ?_
    rintro e w1 ⟨rfl, hb⟩
    go_wp2_with (go_at_call 9; refine (few_any _ _).mono ?_; rintro e w' ⟨rfl, rfl⟩)
    refine (on hb (tbetween_b _ _ _ _ _ HU.out)).mono ?_
    rintro e w1 ⟨rfl, hb⟩
    go_wp2_with fail
    refine (on hb (rbetween_b _ _ _ _ _ (by omega) (by omega) (by omega) HU.out)).mono ?_
    rintro e w1 ⟨rfl, hb⟩
    go_wp2_with fail
    refine (on hb (tbetween_b _ _ _ _ _ HU.out)).mono ?_
    rintro e w1 ⟨rfl, hb⟩
    go_wp2_with fail
    refine (on hb (tbetween_b _ _ _ _ _ HS.out)).mono ?_
    rintro e w1 ⟨rfl, hb⟩
    go_wp2
    go_ret
    exact ⟨rfl, hb⟩
  · have HU := Lib.hid hu
    have HL := Lib.hid (law_between_less _ _ _ hu)
    clear hu
    go_enter Try.func4, Try.ntmps4
    go_wp2_with fail
    refine (awake_any _).mono ?_
    rintro e w1 ⟨rfl, hb⟩
    go_wp2_with (go_at_call 9; refine (few_any _ _).mono ?_; rintro e w' ⟨rfl, rfl⟩)
    refine (on hb (tbetween_b _ _ _ _ _ HU.out)).mono ?_
    rintro e w1 ⟨rfl, hb⟩
    go_wp2_with fail
    refine (on hb (rbetween_b _ _ _ _ _ (by omega) (by omega) (by omega) HU.out)).mono ?_
    rintro e w1 ⟨rfl, hb⟩
    go_wp2_with fail
    refine (on hb (tbetween_b _ _ _ _ _ HU.out)).mono ?_
    rintro e w1 ⟨rfl, hb⟩
    go_wp2_with fail
    refine (on hb (less_b _ _ _ _ (by omega) (by omega) HL.out)).mono ?_
    rintro e w1 ⟨rfl, hb⟩
    go_wp2_with fail
    refine (on hb (tbetween_b _ _ _ _ _ HS.out)).mono ?_
    rintro e w1 ⟨rfl, hb⟩
    go_wp2
    go_ret
    exact ⟨rfl, hb⟩

/-! TwigOrders -/
def rest (a b : ByteArray) : ByteArray := a.extract (com a.data.toList b.data.toList) a.size
theorem rest_list (a b : ByteArray) : (rest a b).data.toList = a.data.toList.drop (com a.data.toList b.data.toList) := by
  unfold rest
  rw [Lib.extract_data, List.take_of_length_le (by rw [List.length_drop, len_list]; exact Nat.le_refl _)]
theorem law_rest (a b : ByteArray) : lt (rest a b) (rest b a) = lt a b := by
  show Op.bytesLess (rest a b).data.toList (rest b a).data.toList = Op.bytesLess a.data.toList b.data.toList
  rw [rest_list, rest_list, com_comm b.data.toList, ← less_drop]
theorem law_rest_com (a b : ByteArray) : com (rest a b).data.toList (rest b a).data.toList = 0 := by
  rw [rest_list, rest_list, com_comm b.data.toList, com_drop]
theorem app_list (a m : ByteArray) : (a ++ m).data.toList = a.data.toList ++ m.data.toList := by
  rw [ByteArray.data_append, Array.toList_append]
theorem law_app_less (a m : ByteArray) : lt (a ++ m) a = false := by
  show Op.bytesLess (a ++ m).data.toList a.data.toList = false
  rw [app_list, not_less_append]
theorem law_app_com (a m : ByteArray) : com (a ++ m).data.toList a.data.toList = a.size := by
  rw [app_list, com_append, len_list]
theorem law_app_beg (a m : ByteArray) : beg (a ++ m) a = true := by
  unfold beg
  rw [law_app_com, len_list]; simp
theorem law_app_above (a m : ByteArray) (u v : List UInt8) (h : above a.data.toList = some u) (g : above (a ++ m).data.toList = some v) : lt (ofL u) (ofL v) = false := by
  rw [app_list] at g
  exact above_append _ _ _ _ h g

theorem tcommon_c (a b : ByteArray) (n : Nat) (w : World) (ha : a.size ≤ 1000) (hb : b.size ≤ 1000) (h : com a.data.toList b.data.toList = n) :
    Calls Try.prog 16 #[.string a, .string b] w fun e w' => e = .returned (.int .i64 n) ∧ Below w.heap.size w w' := by
  rw [← h]; exact tcommon_b a b w ha hb
theorem rcommon_c (a b : ByteArray) (n : Nat) (w : World) (ha : a.size ≤ 1000) (h : com a.data.toList b.data.toList = n) :
    Calls Try.prog 19 #[.string a, .string b] w fun e w' => e = .returned (.int .i64 n) ∧ Below w.heap.size w w' := by
  rw [← h]; exact (rcommon_any a b w ha).mono fun e w' ⟨he, k, hk⟩ => ⟨he, hk ▸ below_drewN (Below.refl _ _) k⟩

set_option maxHeartbeats 2000000 in
theorem orders_walk (a0 a1 a2 : ByteArray) (w : World) :
    Calls Try.prog 5 #[.string a0, .string a1, .string a2] w fun e w' => e = .returned (.bool true) ∧ Below w.heap.size w w' := by
  have z0 := fewB_size a0
  have z1 := fewB_size a1
  have z2 := fewB_size a2
  generalize ha : fewB a0 = a at z0
  generalize hb : fewB a1 = b at z1
  generalize hc : fewB a2 = c at z2
  have n1 := com_le_left a.data.toList b.data.toList
  have n2 := com_le_right a.data.toList b.data.toList
  rw [len_list] at n1 n2
  have HR := Lib.hid (law_rest a b)
  have HC := Lib.hid (law_rest_com a b)
  have HA := Lib.hid ha
  have HB := Lib.hid hb
  have HD := Lib.hid hc
  clear ha hb hc
  have hcat : ∀ W : World, (Op.stringOp .add a c).run Try.prog W = .ok (.string (a ++ c)) W := fun W =>
    run_string_add_sum W _ _ (by omega)
  have zc : (a ++ c).size ≤ 1000 := by rw [ByteArray.size_append]; omega
  generalize hn : com a.data.toList b.data.toList = n at n1 n2
  have er1 : rest a b = a.extract n a.size := by unfold rest; rw [hn]
  have er2 : rest b a = b.extract n b.size := by unfold rest; rw [com_comm, hn]
  have HN := Lib.hid hn
  clear hn
  rw [er1, er2] at HR HC
  clear er1 er2
  have zx : (a.extract n a.size).size ≤ 1000 := by rw [ByteArray.size_extract]; omega
  have zy : (b.extract n b.size).size ≤ 1000 := by rw [ByteArray.size_extract]; omega
  cases hlt : lt a b
  all_goals
    have HL := Lib.hid hlt
    have HRx := Lib.hid (HR.out.trans hlt)
    clear hlt
    go_enter Try.func5, Try.ntmps5
    go_wp2_with fail
    refine (awake_any _).mono ?_
    rintro e w1 ⟨rfl, hb⟩
    go_wp2_with fail
    refine (few_any _ _).mono ?_
    rintro e w' ⟨rfl, rfl⟩
    rw [HA.out]
    go_wp2_with fail
    refine (few_any _ _).mono ?_
    rintro e w' ⟨rfl, rfl⟩
    rw [HB.out]
    go_wp2_with fail
    refine (few_any _ _).mono ?_
    rintro e w' ⟨rfl, rfl⟩
    rw [HD.out]
    go_wp2_with fail
    refine (on hb (tcommon_c a b n _ (by omega) (by omega) HN.out)).mono ?_
    rintro e w1 ⟨rfl, hb⟩
    go_wp2_with fail
    go_quiet (fail)
    rename_i nq
    have hb := below_drewN hb nq
    go_wp2_with fail
    refine (on hb (less_b a b _ _ (by omega) (by omega) HL.out)).mono ?_
    rintro e w1 ⟨rfl, hb⟩
    go_wp2_with fail
    refine (on hb (less_b (a.extract n a.size) (b.extract n b.size) _ _ zx zy HRx.out)).mono ?_
    rintro e w1 ⟨rfl, hb⟩
    go_wp2_with fail
    refine (on hb (tcommon_c (a.extract n a.size) (b.extract n b.size) 0 _ zx zy HC.out)).mono ?_
    rintro e w1 ⟨rfl, hb⟩
    go_wp2_with fail
    refine (on hb (less_b (a ++ c) a _ _ zc (by omega) (law_app_less a c))).mono ?_
    rintro e w1 ⟨rfl, hb⟩
    go_wp2_with fail
    refine (on hb (tbegins_b (a ++ c) a _ _ (law_app_beg a c))).mono ?_
    rintro e w1 ⟨rfl, hb⟩
    go_wp2_with fail
    refine (on hb (tcommon_c (a ++ c) a a.size _ zc (by omega) (law_app_com a c))).mono ?_
    rintro e w1 ⟨rfl, hb⟩
    go_wp2_with fail
    cases hu : above a.data.toList with
    | none =>
      have HU := Lib.hid hu
      clear hu
      refine (on hb (tabove_none a _ (by omega) HU.out)).mono ?_
      rintro e w1 ⟨rfl, hb⟩
      go_wp2_with fail
      cases hv : above (a ++ c).data.toList with
      | none =>
        have HV := Lib.hid hv
        clear hv
        refine (on hb (tabove_none _ _ zc HV.out)).mono ?_
        rintro e w1 ⟨rfl, hb⟩
        go_wp2
        go_ret
        exact ⟨rfl, hb⟩
      | some v =>
        have HV := Lib.hid hv
        clear hv
        refine (on hb (tabove_some _ v _ zc HV.out)).mono ?_
        rintro e w1 ⟨rfl, hb⟩
        go_wp2
        go_ret
        exact ⟨rfl, hb⟩
    | some u =>
      have HU := Lib.hid hu
      clear hu
      have zu := ofL_size _ _ HU.out
      refine (on hb (tabove_some a u _ (by omega) HU.out)).mono ?_
      rintro e w1 ⟨rfl, hb⟩
      go_wp2_with fail
      cases hv : above (a ++ c).data.toList with
      | none =>
        have HV := Lib.hid hv
        clear hv
        refine (on hb (tabove_none _ _ zc HV.out)).mono ?_
        rintro e w1 ⟨rfl, hb⟩
        go_wp2
        go_ret
        exact ⟨rfl, hb⟩
      | some v =>
        have HV := Lib.hid hv
        clear hv
        have zv := ofL_size _ _ HV.out
        refine (on hb (tabove_some _ v _ zc HV.out)).mono ?_
        rintro e w1 ⟨rfl, hb⟩
        go_wp2_with fail
        refine (on hb (less_b (ofL u) (ofL v) false _ (by omega) (by omega) (law_app_above a c u v HU.out HV.out))).mono ?_
        rintro e w1 ⟨rfl, hb⟩
        go_wp2
        go_ret
        exact ⟨rfl, hb⟩

/-! TwigCommon -/
theorem rest_cat (a b : ByteArray) (h : beg a b = true) : (b ++ a.extract b.size a.size).toList = a.toList := by
  rw [Lib.toList_data, Lib.toList_data, app_list, Lib.extract_data, List.take_of_length_le (by rw [List.length_drop, len_list]; exact Nat.le_refl _)]
  have hp : b.data.toList <+: a.data.toList := by
    have : (com a.data.toList b.data.toList == b.data.toList.length) = true := h
    rw [begins_of] at this
    exact List.isPrefixOf_iff_prefix.1 this
  obtain ⟨t, ht⟩ := hp
  rw [← ht, ← len_list b, List.drop_left]

theorem law_beg_self (a : ByteArray) : beg a a = true := by unfold beg; rw [com_self]; simp
theorem law_beg_nil (a : ByteArray) : beg a (ByteArray.mk #[]) = true := by
  unfold beg
  have e : (ByteArray.mk #[]).data.toList = [] := rfl
  rw [e, com_nil]; rfl

set_option maxHeartbeats 2000000 in
theorem common_walk (a0 a1 : ByteArray) (w : World) :
    Calls Try.prog 6 #[.string a0, .string a1] w fun e w' => e = .returned (.bool true) ∧ Below w.heap.size w w' := by
  have z0 := fewB_size a0
  have z1 := fewB_size a1
  generalize ha : fewB a0 = a at z0
  generalize hb : fewB a1 = b at z1
  have HA := Lib.hid ha
  have HB := Lib.hid hb
  clear ha hb
  generalize hn : com a.data.toList b.data.toList = n
  have HN := Lib.hid hn
  have HM := Lib.hid ((com_comm b.data.toList a.data.toList).trans hn)
  clear hn
  go_enter Try.func6, Try.ntmps6
  go_wp2_with fail
  refine (awake_any _).mono ?_
  rintro e w1 ⟨rfl, hb⟩
  go_wp2_with fail
  refine (few_any _ _).mono ?_
  rintro e w' ⟨rfl, rfl⟩
  rw [HA.out]
  go_wp2_with fail
  refine (few_any _ _).mono ?_
  rintro e w' ⟨rfl, rfl⟩
  rw [HB.out]
  go_wp2_with fail
  refine (on hb (tcommon_c a b n _ (by omega) (by omega) HN.out)).mono ?_
  rintro e w1 ⟨rfl, hb⟩
  go_wp2_with fail
  cases hg : beg a b
  · have HG := Lib.hid hg
    clear hg
    refine (tcut_no a b _ HG.out).mono ?_
    rintro e w' ⟨rfl, rfl⟩
    go_wp2_with fail
    refine (on hb (rcommon_c a b n _ (by omega) HN.out)).mono ?_
    rintro e w1 ⟨rfl, hb⟩
    go_wp2_with fail
    refine (on hb (tcommon_c b a n _ (by omega) (by omega) HM.out)).mono ?_
    rintro e w1 ⟨rfl, hb⟩
    go_wp2_with fail
    refine (on hb (tbegins_b a b _ _ HG.out)).mono ?_
    rintro e w1 ⟨rfl, hb⟩
    go_wp2_with fail
    refine (on hb (rbegins_b a b _ _ (by omega) HG.out)).mono ?_
    rintro e w1 ⟨rfl, hb⟩
    go_wp2_with fail
    refine (on hb (rbegins_b a b _ _ (by omega) HG.out)).mono ?_
    rintro e w1 ⟨rfl, hb⟩
    go_wp2_with fail
    refine (on hb (tbegins_b a a _ _ (law_beg_self a))).mono ?_
    rintro e w1 ⟨rfl, hb⟩
    go_wp2_with fail
    refine (on hb (tbegins_b a (ByteArray.mk #[]) _ _ (law_beg_nil a))).mono ?_
    rintro e w1 ⟨rfl, hb⟩
    go_wp2
    go_ret
    exact ⟨rfl, hb⟩
  · have HG := Lib.hid hg
    have HT := Lib.hid (rest_cat a b hg)
    clear hg
    have hcat : ∀ W : World, (Op.stringOp .add b (a.extract b.size a.size)).run Try.prog W = .ok (.string (b ++ a.extract b.size a.size)) W := fun W =>
      run_string_add_sum W _ _ (by rw [ByteArray.size_extract]; omega)
    refine (tcut_yes a b _ HG.out).mono ?_
    rintro e w' ⟨rfl, rfl⟩
    go_wp2_with fail
    refine (on hb (rcommon_c a b n _ (by omega) HN.out)).mono ?_
    rintro e w1 ⟨rfl, hb⟩
    go_wp2_with fail
    refine (on hb (tcommon_c b a n _ (by omega) (by omega) HM.out)).mono ?_
    rintro e w1 ⟨rfl, hb⟩
    go_wp2_with fail
    refine (on hb (tbegins_b a b _ _ HG.out)).mono ?_
    rintro e w1 ⟨rfl, hb⟩
    go_wp2_with fail
    refine (on hb (rbegins_b a b _ _ (by omega) HG.out)).mono ?_
    rintro e w1 ⟨rfl, hb⟩
    go_wp2_with fail
    refine (on hb (rbegins_b a b _ _ (by omega) HG.out)).mono ?_
    rintro e w1 ⟨rfl, hb⟩
    have hT : ((b ++ a.extract b.size a.size).toList == a.toList) = true := by rw [HT.out]; simp
    go_wp2_with fail
    refine (on hb (tbegins_b a a _ _ (law_beg_self a))).mono ?_
    rintro e w1 ⟨rfl, hb⟩
    go_wp2_with fail
    refine (on hb (tbegins_b a (ByteArray.mk #[]) _ _ (law_beg_nil a))).mono ?_
    rintro e w1 ⟨rfl, hb⟩
    go_wp2
    go_ret
    exact ⟨rfl, hb⟩

end Go.Proofs.Ytcalklfkihjipaa
