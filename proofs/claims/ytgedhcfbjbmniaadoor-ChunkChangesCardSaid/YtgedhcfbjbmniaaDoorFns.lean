/-
  The walks of the document's Of and Rank, of Nth, of slices.Index, Contains, Equal.
-/
import Derived.Test.YtgedhcfbjbmniaaDoorList
namespace Go.Proofs.YtgedhcfbjbmniaaDoor
open Go.RowKit
set_option linter.unusedVariables false

theorem div_bit (y j : Nat) : y / 2 ^ j = 2 * (y / 2 ^ (j + 1)) + (if y.testBit j then 1 else 0) := by
  rw [Nat.pow_succ, ← Nat.div_div_eq_div_mul, bit_eq]
  generalize y / 2 ^ j = q
  have := Nat.mod_lt q (by decide : 0 < 2)
  by_cases h : q % 2 = 1
  · rw [h]; simp; omega
  · have h0 : q % 2 = 0 := by omega
    rw [h0]; simp; omega

set_option maxRecDepth 100000 in
set_option maxHeartbeats 1000000 in
/-- the document's Of, of numbers that are just y's -/
theorem of_any (L : List Nat) (y : Nat) (v : Value) (B : Nat) (w : World) (hy : y < 4294967296) (hL : L.length ≤ 1000) (hm : ∀ j, j < 32 → (j ∈ L ↔ y.testBit j = true)) (hown : w.ownsRow B 3 1 v L.length (L.map num)) :
    Calls Tryd.prog 11 #[v] w fun e w' => e = .returned (.int .u32 (y : Nat)) ∧ w = w' := by
  obtain ⟨a, cap, rfl, hcell⟩ := own_open hown
  have HC := Lib.hid hcell
  have HM := Lib.hid hm
  clear hown hcell hm
  go_enter Tryd.func11, Tryd.ntmps11
  go_wp2_with fail
  go_loop [3, 4] (fun b i => ∃ (j z : Nat), b = .int .u32 z ∧ i = .int .i64 ((j : Int) - 1) ∧ j ≤ 32 ∧ Hid (z = y / 2 ^ j)) (fun _ i => (intOf i + 1).toNat)
  case atStart => exact ⟨32, 0, rfl, by simp, by omega, Lib.hid (Nat.div_eq_of_lt (by omega)).symm⟩
  case round =>
    obtain ⟨j, z, rfl, rfl, hj, HZ⟩ := hrel
    by_cases h0 : 0 < j
    · obtain ⟨i, rfl⟩ : ∃ i, j = i + 1 := ⟨j - 1, by omega⟩
      have e1 : (((i + 1 : Nat) : Int) - 1) = (i : Int) := by omega
      rw [e1]
      have hz2 : 2 * z + 1 < 4294967296 := by
        have h1 := div_bit y i
        rw [← HZ.out] at h1
        have h2 : y / 2 ^ i ≤ y := Nat.div_le_self _ _
        have h3 : 2 * z < 4294967296 := by omega
        omega
      have hw : (z : Int) * 2 % 4294967296 = ((2 * z : Nat) : Int) := by omega
      have HD := Lib.hid (div_bit y i)
      go_wp2_with fail
      go_loop [3, 15] (fun b t => ∃ k : Nat, b = .int .u32 ((z : Int) * 2) ∧ t = .int .i64 k ∧ k ≤ L.length ∧ Hid (∀ q (h : q < L.length), q < k → (L[q]'h) ≠ i)) (fun _ t => L.length - (intOf t).toNat)
      case atStart => exact ⟨0, by simp, rfl, by omega, Lib.hid (fun q h hq => absurd hq (by omega))⟩
      case round =>
        obtain ⟨k, rfl, rfl, hk, HN⟩ := hrel
        by_cases hkl : k < L.length
        · obtain ⟨g, rfl, hc⟩ := HC.out (by omega)
          have hck := hc k hkl
          clear hc
          by_cases he : (L[k]'hkl) = i
          · have hbit : y.testBit i = true := (HM.out i (by omega)).1 (he ▸ List.getElem_mem hkl)
            rw [he] at hck
            have HB := Lib.hid hbit
            clear hbit he
            go_wp2_with fail
            go_round
            case rel => exact ⟨i, 2 * z + 1, by first | go_num | (simp; omega), by go_num, by omega, Lib.hid (by rw [HD.out, ← HZ.out, HB.out]; rfl)⟩
            case measure => simp [intOf]
          · have hne : (((L[k]'hkl : Nat) : Int) == (i : Int)) = false := by rw [beq_eq_false_iff_ne]; omega
            have HN2 : Hid (∀ q (h : q < L.length), q < k + 1 → (L[q]'h) ≠ i) := Lib.hid (fun q h hq => by
              by_cases hqk : q = k
              · subst hqk; exact he
              · exact HN.out q h (by omega))
            generalize (L[k]'hkl) = lk at hck hne he
            clear he HN
            go_wp2_with fail
            go_round
            case rel => exact ⟨k + 1, by simp, by go_num, by omega, HN2⟩
            case measure => simp [intOf]; omega
        · obtain rfl : k = L.length := by omega
          have hbit : y.testBit i = false := by
            cases hb : y.testBit i with
            | false => rfl
            | true =>
              obtain ⟨q, hq, he⟩ := List.getElem_of_mem ((HM.out i (by omega)).2 hb)
              exact absurd he (HN.out q hq hq)
          have HB := Lib.hid hbit
          clear hbit
          go_wp2_with fail
          go_round
          case rel => exact ⟨i, 2 * z, by first | go_num | (simp; omega), by go_num, by omega, Lib.hid (by rw [HD.out, ← HZ.out, HB.out]; rfl)⟩
          case measure => simp [intOf]
    · obtain rfl : j = 0 := by omega
      go_wp2_with fail
      all_goals go_ret
      all_goals exact ⟨ret_int (by rw [HZ.out]; simp), rfl⟩

/-- how many of the set are less than i, by the document -/
theorem rank_filter (x : Nat) (i : Int) : ((low x 32).filter fun (k : Nat) => decide ((k : Int) < i)).length = rk x i := by
  unfold rk
  by_cases h0 : i ≤ 0
  · rw [if_pos h0, List.filter_eq_nil_iff.2 (by intro k _; simp; omega)]; rfl
  · rw [if_neg h0]
    by_cases h1 : 32 ≤ i
    · rw [if_pos h1, List.filter_eq_self.2 (by intro k hk; have := (mem_low.1 hk).1; simp; omega), low_len]
    · rw [if_neg h1, ← low_len]
      congr 1
      refine sorted_ext ((low_sorted x 32).filter _) (low_sorted _ _) fun k => ?_
      rw [List.mem_filter, mem_low, mem_low]
      simp only [decide_eq_true_eq]
      constructor
      · rintro ⟨⟨h, hb⟩, hk⟩; exact ⟨by omega, hb⟩
      · rintro ⟨h, hb⟩; exact ⟨⟨by omega, hb⟩, by omega⟩

set_option maxRecDepth 100000 in
set_option maxHeartbeats 1000000 in
theorem refrank_any (x : Nat) (i : Int) (w : World) (hx : x < 4294967296) :
    Calls Tryd.prog 18 #[.int .u32 x, .int .i64 i] w fun e w' => e = .returned (.int .i64 (rk x i : Nat)) ∧ Below w.heap.size w w' := by
  go_enter Tryd.func18, Tryd.ntmps18
  go_wp2_with fail
  refine (list_any x _ hx).mono ?_
  rintro e w1 ⟨v, rfl, hown, hb⟩
  obtain ⟨a, cap, rfl, hcell⟩ := own_open hown
  have HC := Lib.hid hcell
  have HB := Lib.hid hb
  have HR := Lib.hid (rank_filter x i)
  have hl := low_le x 32
  generalize low x 32 = L at *
  clear hown hcell hb
  go_wp2_with fail
  go_loop [5, 11] (fun c t => ∃ k : Nat, t = .int .i64 k ∧ k ≤ L.length ∧ c = .int .i64 (((L.take k).filter fun (k : Nat) => decide ((k : Int) < i)).length : Nat)) (fun _ t => L.length - (intOf t).toNat)
  case atStart => exact ⟨0, rfl, by omega, by simp⟩
  case round =>
    obtain ⟨k, rfl, hk, rfl⟩ := hrel
    have hc32 : ((L.take k).filter fun (k : Nat) => decide ((k : Int) < i)).length ≤ 32 := Nat.le_trans (List.length_filter_le _ _) (by simp; omega)
    by_cases hkl : k < L.length
    · obtain ⟨g, rfl, hc⟩ := HC.out (by omega)
      have hck := hc k hkl
      have hstep : ((L.take (k + 1)).filter fun (k : Nat) => decide ((k : Int) < i)).length = ((L.take k).filter fun (k : Nat) => decide ((k : Int) < i)).length + (if ((L[k]'hkl : Nat) : Int) < i then 1 else 0) := by
        rw [List.take_succ_eq_append_getElem hkl, List.filter_append, List.length_append]
        by_cases h : ((L[k]'hkl : Nat) : Int) < i <;> simp [h]
      generalize ((L.take k).filter fun (k : Nat) => decide ((k : Int) < i)).length = ck at *
      generalize (L[k]'hkl) = lk at *
      have HS := Lib.hid hstep
      clear hstep hc
      by_cases hlt : (lk : Int) < i
      · go_wp2_with fail
        go_round
        case rel => exact ⟨k + 1, by go_num, by omega, by rw [HS.out, if_pos hlt]; go_num⟩
        case measure => simp [intOf]; omega
      · go_wp2_with fail
        go_round
        case rel => exact ⟨k + 1, by go_num, by omega, by rw [HS.out, if_neg hlt]; go_num⟩
        case measure => simp [intOf]; omega
    · obtain rfl : k = L.length := by omega
      rw [List.take_length]
      rw [HR.out]
      go_wp2_with fail
      all_goals go_ret
      all_goals exact ⟨rfl, HB.out⟩

set_option maxRecDepth 100000 in
theorem index_any (L : List Nat) (i : Int) (v : Value) (B : Nat) (w : World) (hL : L.length ≤ 1000) (hown : w.ownsRow B 3 1 v L.length (L.map num)) :
    Calls Tryd.prog 26 #[v, .int .i64 i] w fun e w' => (∃ r : Int, e = .returned (.int .i64 r) ∧ (0 ≤ r ↔ ∃ k ∈ L, (k : Int) = i)) ∧ w = w' := by
  obtain ⟨a, cap, rfl, hcell⟩ := own_open hown
  have HC := Lib.hid hcell
  clear hown hcell
  go_enter Tryd.func26, Tryd.ntmps26
  go_wp2_with fail
  go_loop [8] (fun t => ∃ k : Nat, t = .int .i64 k ∧ k ≤ L.length ∧ Hid (∀ q (h : q < L.length), q < k → ((L[q]'h : Nat) : Int) ≠ i)) (fun t => L.length - (intOf t).toNat)
  case atStart => exact ⟨0, rfl, by omega, Lib.hid (fun q h hq => absurd hq (by omega))⟩
  case round =>
    obtain ⟨k, rfl, hk, HN⟩ := hrel
    by_cases hkl : k < L.length
    · obtain ⟨g, rfl, hc⟩ := HC.out (by omega)
      have hck := hc k hkl
      clear hc
      by_cases he : ((L[k]'hkl : Nat) : Int) = i
      · have hmem : Hid (∃ k ∈ L, (k : Int) = i) := Lib.hid ⟨_, List.getElem_mem hkl, he⟩
        have heq : (i == ((L[k]'hkl : Nat) : Int)) = true := by rw [beq_iff_eq]; exact he.symm
        generalize (L[k]'hkl) = lk at *
        clear he HN
        go_wp2_with fail
        all_goals go_ret
        all_goals exact ⟨⟨_, rfl, fun _ => hmem.out, fun _ => by omega⟩, rfl⟩
      · have hne : (i == ((L[k]'hkl : Nat) : Int)) = false := by rw [beq_eq_false_iff_ne]; exact fun e => he e.symm
        have HN2 : Hid (∀ q (h : q < L.length), q < k + 1 → ((L[q]'h : Nat) : Int) ≠ i) := Lib.hid (fun q h hq => by
          by_cases hqk : q = k
          · subst hqk; exact he
          · exact HN.out q h (by omega))
        generalize (L[k]'hkl) = lk at *
        clear he HN
        go_wp2_with fail
        go_round
        case rel => exact ⟨k + 1, by go_num, by omega, HN2⟩
        case measure => simp [intOf]; omega
    · obtain rfl : k = L.length := by omega
      go_wp2_with fail
      all_goals go_ret
      all_goals exact ⟨⟨-1, rfl, fun h => absurd h (by omega), fun ⟨x, hx, he⟩ => by
        obtain ⟨q, hq, rfl⟩ := List.getElem_of_mem hx
        exact absurd he (HN.out q hq hq)⟩, rfl⟩

theorem contains_any (L : List Nat) (i : Int) (v : Value) (B : Nat) (w : World) (hL : L.length ≤ 1000) (hown : w.ownsRow B 3 1 v L.length (L.map num)) :
    Calls Tryd.prog 17 #[v, .int .i64 i] w fun e w' => (∃ b : Bool, e = .returned (.bool b) ∧ (b = true ↔ ∃ k ∈ L, (k : Int) = i)) ∧ w = w' := by
  go_enter Tryd.func17, Tryd.ntmps17
  go_wp2_with fail
  refine (index_any L i _ B _ hL hown).mono ?_
  rintro e w' ⟨⟨r, rfl, hr⟩, rfl⟩
  go_wp2_with fail
  all_goals go_ret
  all_goals exact ⟨⟨_, rfl, by simp⟩, rfl⟩

set_option maxRecDepth 100000 in
/-- two slices with the same numbers -/
theorem equal_same (L : List Nat) (u v : Value) (B C : Nat) (w : World) (hL : L.length ≤ 1000) (hu : w.ownsRow B 3 1 u L.length (L.map num)) (hv : w.ownsRow C 3 1 v L.length (L.map num)) :
    Calls Tryd.prog 19 #[u, v] w fun e w' => e = .returned (.bool true) ∧ ∃ n, w' = w.drewN n := by
  obtain ⟨a, cap, rfl, hcu⟩ := own_open hu
  obtain ⟨b, cap2, rfl, hcv⟩ := own_open hv
  have HU := Lib.hid hcu
  have HV := Lib.hid hcv
  clear hu hv hcu hcv
  go_enter Tryd.func19, Tryd.ntmps19
  go_wp2_with fail
  go_loopw [13] (fun t wr => ∃ (k n : Nat), t = .int .i64 k ∧ k ≤ L.length ∧ wr = w.drewN n) (fun t _ => L.length - (intOf t).toNat)
  case atStart => exact ⟨0, 0, rfl, by omega, rfl⟩
  case round =>
    obtain ⟨k, n, rfl, hk, rfl⟩ := hrel
    by_cases hkl : k < L.length
    · obtain ⟨g, rfl, hc⟩ := HU.out (by omega)
      obtain ⟨g2, rfl, hc2⟩ := HV.out (by omega)
      have h1 : (w.drewN n).cell? ⟨g, k, none⟩ = some (.int .i64 ((L[k]'hkl : Nat) : Int)) := hc k hkl
      have h2 : (w.drewN n).cell? ⟨g2, k, none⟩ = some (.int .i64 ((L[k]'hkl : Nat) : Int)) := hc2 k hkl
      clear hc hc2
      generalize (L[k]'hkl) = lk at *
      obtain ⟨wq, hwq⟩ : ∃ wq, w.drewN n = wq := ⟨_, rfl⟩
      rw [hwq] at h1 h2 ⊢
      go_wp2_with fail
      go_quiet (fail)
      go_wp2_with fail
      go_roundw
      case rel => exact ⟨k + 1, n + nq, by go_num, by omega, by rw [← hwq]; simp [World.drewN, Nat.add_assoc]⟩
      case measure => simp [intOf]; omega
    · obtain rfl : k = L.length := by omega
      go_wp2_with fail
      all_goals go_ret
      all_goals exact ⟨rfl, _, rfl⟩
end Go.Proofs.YtgedhcfbjbmniaaDoor
