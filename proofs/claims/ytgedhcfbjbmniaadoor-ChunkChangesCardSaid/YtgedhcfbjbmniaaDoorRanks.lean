/-
  The walk of ChunkRanks.
-/
import Derived.Test.YtgedhcfbjbmniaaDoorSets
namespace Go.Proofs.YtgedhcfbjbmniaaDoor
open Go.RowKit
set_option linter.unusedVariables false

theorem ones_step (z n : Nat) : ones (n + 1) z = ones n z + (if z.testBit n then 1 else 0) := by
  rw [← low_len, ← low_len, low_succ, List.length_append]
  split <;> simp
theorem rk_nat (z n : Nat) (hn : n ≤ 32) : rk z (n : Int) = ones n z := by
  unfold rk
  by_cases h0 : (n : Int) ≤ 0
  · rw [if_pos h0, show n = 0 by omega, ones_nil]
  · rw [if_neg h0]
    by_cases h1 : (32 : Int) ≤ n
    · rw [if_pos h1, show n = 32 by omega]
    · rw [if_neg h1]; rfl
/-- the rank of the k'th is k -/
theorem take_less {L : List Nat} (h : L.Pairwise (· < ·)) (k : Nat) (hk : k < L.length) : L.filter (fun (j : Nat) => decide ((j : Int) < ((L[k]'hk : Nat) : Int))) = L.take k := by
  refine sorted_ext (h.filter _) (h.sublist (List.take_sublist _ _)) fun j => ?_
  rw [List.mem_filter, decide_eq_true_eq, List.mem_take_iff_getElem]
  rw [List.pairwise_iff_getElem] at h
  constructor
  · rintro ⟨hj, hlt⟩
    obtain ⟨q, hq, rfl⟩ := List.getElem_of_mem hj
    refine ⟨q, ?_, rfl⟩
    rcases Nat.lt_or_ge q k with h1 | h1
    · omega
    · rcases Nat.lt_or_ge k q with h2 | h2
      · have := h k q hk hq h2; omega
      · have : q = k := by omega
        subst this; omega
  · rintro ⟨q, hq, rfl⟩
    have hq' : q < L.length := by omega
    refine ⟨List.getElem_mem hq', ?_⟩
    have := h q k hq' hk (by omega)
    omega
theorem rank_of (x k : Nat) (hk : k < (low x 32).length) : rk x (((low x 32)[k]'hk : Nat) : Int) = k := by
  rw [← rank_filter, take_less (low_sorted x 32) k hk, List.length_take]
  omega

theorem or_bit (x i j : Nat) : (x ||| 2 ^ i).testBit j = (x.testBit j || decide (i = j)) := by
  rw [Nat.testBit_or, Nat.testBit_two_pow]
theorem or_lt (x i : Nat) (hx : x < 4294967296) (hi : i < 32) : x ||| 2 ^ i < 4294967296 :=
  Nat.or_lt_two_pow (n := 32) hx (pow_int i hi).2
theorem or_same (x i : Nat) (h : x.testBit i = true) : x ||| 2 ^ i = x := by
  apply Nat.eq_of_testBit_eq
  intro j
  rw [or_bit]
  by_cases e : i = j
  · subst e; simp [h]
  · simp [e]
theorem or_ne (x i : Nat) (h : x.testBit i = false) : x ||| 2 ^ i ≠ x := by
  intro e
  have := or_bit x i i
  rw [e, h] at this
  simp at this
theorem or_ones (x i : Nat) (h : x.testBit i = false) : ∀ n, ones n (x ||| 2 ^ i) = ones n x + (if i < n then 1 else 0)
  | 0 => by simp [ones_nil]
  | n + 1 => by
    rw [ones_step, ones_step, or_ones x i h n, or_bit]
    by_cases e : i = n
    · subst e; simp [h]
    · by_cases h1 : i < n
      · have : i < n + 1 := by omega
        simp [e, h1, this]; omega
      · have : ¬ i < n + 1 := by omega
        simp [e, h1, this]

/-- with i: what it turns -/
theorem with_any (x : Nat) (i : Int) (w : World) (hx : x < 4294967296) : Calls Tryd.prog 8 #[.int .u32 x, .int .i64 i] w fun e w' =>
    (∃ y : Nat, e = .returned (.int .u32 y) ∧ y < 4294967296 ∧ ∀ n : Nat, n ≤ 32 → ones n y = ones n x + (if y ≠ x ∧ i < (n : Int) then 1 else 0)) ∧ w = w' := by
  by_cases h : 0 ≤ i ∧ i < 32
  · have e : i = (i.toNat : Int) := by omega
    generalize i.toNat = q at e
    subst e
    refine Calls.mono (with_in x q w hx (by omega)) fun e w' ⟨he, hw⟩ => ⟨⟨x ||| 2 ^ q, he, or_lt x q hx (by omega), fun n hn => ?_⟩, hw⟩
    cases hb : x.testBit q with
    | true => rw [or_same x q hb]; simp
    | false =>
      rw [or_ones x q hb]
      have := or_ne x q hb
      simp [this]
  · exact Calls.mono (with_out x i w (by omega)) fun e w' ⟨he, hw⟩ => ⟨⟨x, he, hx, fun n hn => by simp⟩, hw⟩

set_option maxRecDepth 100000 in
set_option maxHeartbeats 4000000 in
theorem ranks_walk (x : Nat) (i : Int) (w : World) (hx : x < 4294967296) (hT : Tab w) (h0 : 0 < w.heap.size) :
    Calls Tryd.prog 4 #[.int .u32 x, .int .i64 i] w fun e w' => e = .returned (.bool true) ∧ Below w.heap.size w w' := by
  have HT := Lib.hid hT
  clear hT
  go_enter Tryd.func4, Tryd.ntmps4
  go_wp2_with fail
  refine (awake_any _).mono ?_
  rintro e w1 ⟨rfl, n1, rfl⟩
  have HT1 : Hid (Tab (w.drewN n1)) := HT
  have HB1 : Hid (Below w.heap.size w (w.drewN n1)) := Lib.hid (below_drewN (Below.refl _ _) n1)
  have hs1 : (w.drewN n1).heap.size = w.heap.size := rfl
  generalize w.drewN n1 = w1 at HT1 HB1 hs1 ⊢
  go_wp2_with fail
  refine (all_any x _).mono ?_
  rintro e w7 ⟨rfl, rfl⟩
  rw [hs1]
  have hb7 : Below w.heap.size w1 (w1.alloc (boxB x)) := (Below.refl _ _).alloc (by omega) _
  have hbox : (w1.alloc (boxB x)).heap[w.heap.size]? = some (boxB x) := by rw [← hs1]; exact World.alloc_heap_new w1 _
  have HT7 := Lib.hid (tab_below HT1.out hb7 h0)
  have HB7 := Lib.hid (HB1.out.trans hb7)
  have HBox := Lib.hid hbox
  clear HT1 HB1 hbox hb7 hs1
  generalize w1.alloc (boxB x) = w7 at *
  go_wp2_with fail
  refine (collect_any x w.heap.size w.heap.size _ hx HBox.out h0 (Nat.le_refl _) HT7.out).mono ?_
  rintro e w8 ⟨v, rfl, hv, hb8⟩
  have HT8 := Lib.hid (tab_below HT7.out hb8 h0)
  have HB8 := Lib.hid (HB7.out.trans hb8)
  obtain ⟨a, cap, rfl, hcell⟩ := own_open hv
  have HC := Lib.hid hcell
  have hl := low_le x 32
  clear hv hb8 HB7 HT7 HBox hcell
  go_wp2_with fail
  go_loopw [20] (fun t wr => ∃ (k n : Nat), t = .int .i64 k ∧ k ≤ (low x 32).length ∧ wr = w8.drewN n) (fun t _ => (low x 32).length - (intOf t).toNat)
  case atStart => exact ⟨0, 0, rfl, by omega, rfl⟩
  case round =>
    obtain ⟨k, n, rfl, hk, rfl⟩ := hrel
    by_cases hkl : k < (low x 32).length
    · obtain ⟨g, rfl, hc⟩ := HC.out (by omega)
      have hck : (w8.drewN n).cell? ⟨g, k, none⟩ = some (.int .i64 (((low x 32)[k]'hkl : Nat) : Int)) := hc k hkl
      have hrk := rank_of x k hkl
      have HTn : Hid (Tab (w8.drewN n)) := HT8
      clear hc
      obtain ⟨wq, hwq⟩ : ∃ wq, w8.drewN n = wq := ⟨_, rfl⟩
      rw [hwq] at hck HTn ⊢
      have HN := Lib.hid (nth_in x k wq hx HTn.out hkl)
      generalize ((low x 32)[k]'hkl) = lk at hck hrk HN
      go_wp2_with fail
      refine HN.out.mono ?_
      rintro e w' ⟨rfl, n2, rfl⟩
      go_wp2_with fail
      refine (rank_any x lk _ hx).mono ?_
      rintro e w' ⟨rfl, n3, rfl⟩
      rw [hrk]
      go_wp2_with fail
      go_roundw
      case rel => exact ⟨k + 1, n + n2 + n3, by go_num, by omega, by rw [← hwq]; simp [World.drewN, Nat.add_assoc]⟩
      case measure => simp [intOf]; omega
    · have HBn : Hid (Below w.heap.size w (w8.drewN n)) := Lib.hid (below_drewN HB8.out n)
      clear HT8 HB8 HC
      generalize w8.drewN n = wo at HBn ⊢
      go_wp2_with fail
      refine (with_any x i _ hx).mono ?_
      rintro e w' ⟨⟨y, rfl, hy, hstep⟩, rfl⟩
      have HS := Lib.hid hstep
      clear hstep
      go_wp2_with fail
      go_loopw [49] (fun t wr => ∃ (k n : Nat), t = .int .i64 k ∧ k ≤ 33 ∧ wr = wo.drewN n) (fun t _ => 33 - (intOf t).toNat)
      case atStart => exact ⟨0, 0, rfl, by omega, rfl⟩
      case round =>
        obtain ⟨k, n, rfl, hk, rfl⟩ := hrel
        obtain ⟨wq, hwq⟩ : ∃ wq, wo.drewN n = wq := ⟨_, rfl⟩
        rw [hwq]
        by_cases hk33 : k < 33
        · have h1 := HS.out k (by omega)
          have r1 := rk_nat y k (by omega)
          have r2 := rk_nat x k (by omega)
          have hle := ones_le k x
          by_cases hyx : y ≠ x
          · have hb : ((y : Int) != (x : Int)) = true := by rw [bne_iff_ne]; omega
            by_cases hik : i < (k : Int)
            · rw [if_pos ⟨hyx, hik⟩] at h1
              rw [← r1, ← r2] at h1
              rw [← r2] at hle
              have H1 := Lib.hid h1
              clear h1 r1 r2 hyx
              go_wp2_with fail
              refine (rank_any y k _ hy).mono ?_
              rintro e w' ⟨rfl, n2, rfl⟩
              rw [H1.out]
              go_wp2_with fail
              refine (rank_any x k _ hx).mono ?_
              rintro e w' ⟨rfl, n3, rfl⟩
              generalize rk x (k : Int) = rr at *
              go_wp2_with fail
              go_roundw
              case rel => exact ⟨k + 1, n + n2 + n3, by go_num, by omega, by rw [← hwq]; simp [World.drewN, Nat.add_assoc]⟩
              case measure => simp [intOf]; omega
            · rw [if_neg (fun h => hik h.2)] at h1
              rw [← r1, ← r2] at h1
              rw [← r2] at hle
              have H1 := Lib.hid h1
              clear h1 r1 r2 hyx
              go_wp2_with fail
              refine (rank_any y k _ hy).mono ?_
              rintro e w' ⟨rfl, n2, rfl⟩
              rw [H1.out]
              go_wp2_with fail
              refine (rank_any x k _ hx).mono ?_
              rintro e w' ⟨rfl, n3, rfl⟩
              generalize rk x (k : Int) = rr at *
              go_wp2_with fail
              go_roundw
              case rel => exact ⟨k + 1, n + n2 + n3, by go_num, by omega, by rw [← hwq]; simp [World.drewN, Nat.add_assoc]⟩
              case measure => simp [intOf]; omega
          · have hyx' : y = x := by omega
            subst hyx'
            rw [← r2] at hle
            clear h1 r1 r2 hyx HS
            go_wp2_with fail
            refine (rank_any y k _ hy).mono ?_
            rintro e w' ⟨rfl, n2, rfl⟩
            go_wp2_with fail
            refine (rank_any y k _ hx).mono ?_
            rintro e w' ⟨rfl, n3, rfl⟩
            generalize rk y (k : Int) = rr at *
            go_wp2_with fail
            go_roundw
            case rel => exact ⟨k + 1, n + n2 + n3, by go_num, by omega, by rw [← hwq]; simp [World.drewN, Nat.add_assoc]⟩
            case measure => simp [intOf]; omega
        · have r2 := rk_nat x 32 (by omega)
          have R2 := Lib.hid (show rk x 32 = ones 32 x from r2)
          have HBq : Hid (Below w.heap.size w wq) := Lib.hid (by rw [← hwq]; exact below_drewN HBn.out n)
          clear r2
          go_wp2_with fail
          refine (rank_any x 32 _ hx).mono ?_
          rintro e w' ⟨rfl, n2, rfl⟩
          rw [R2.out]
          go_wp2_with fail
          refine (count_any x _ hx).mono ?_
          rintro e w' ⟨rfl, n3, rfl⟩
          go_wp2_with fail
          all_goals go_ret
          all_goals exact ⟨ret_bool (by simp), below_drewN HBq.out (n2 + n3)⟩
end Go.Proofs.YtgedhcfbjbmniaaDoor
