/-
  The walk of ChunkChanges.
-/
import Derived.Test.YtgedhcfbjbmniaaDoorRanks
namespace Go.Proofs.YtgedhcfbjbmniaaDoor
open Go.RowKit Go.Shelf
set_option linter.unusedVariables false
attribute [local go_sem] Oper.semAt_some

theorem cut_bit (x i j : Nat) (hx : x < 4294967296) (hi : i < 32) : (cut x i).testBit j = (x.testBit j && decide (i ≠ j)) := by
  unfold cut
  rw [Nat.testBit_and, show (4294967295 : Nat) - 2 ^ i = 2 ^ 32 - (2 ^ i + 1) by omega, Nat.testBit_two_pow_sub_succ (show 2 ^ i < 2 ^ 32 from (pow_int i hi).2), Nat.testBit_two_pow]
  by_cases h : j < 32
  · simp [h]
  · have hz : x.testBit j = false := Nat.testBit_lt_two_pow (Nat.lt_of_lt_of_le hx (Nat.pow_le_pow_right (n := 2) (by decide) (show 32 ≤ j by omega)))
    simp [hz]
theorem cut_lt (x i : Nat) (hx : x < 4294967296) : cut x i < 4294967296 := Nat.lt_of_le_of_lt Nat.and_le_left hx
theorem cut_off (x i : Nat) (hx : x < 4294967296) (hi : i < 32) : (cut x i).testBit i = false := by rw [cut_bit x i i hx hi]; simp
theorem or_cut (x i : Nat) (hx : x < 4294967296) (hi : i < 32) : cut x i ||| 2 ^ i = x ||| 2 ^ i := by
  apply Nat.eq_of_testBit_eq
  intro j
  rw [or_bit, or_bit, cut_bit x i j hx hi]
  by_cases e : i = j <;> simp [e]
theorem cut_or (x i : Nat) (hx : x < 4294967296) (hi : i < 32) : cut (x ||| 2 ^ i) i = cut x i := by
  apply Nat.eq_of_testBit_eq
  intro j
  rw [cut_bit _ i j (or_lt x i hx hi) hi, cut_bit x i j hx hi, or_bit]
  by_cases e : i = j <;> simp [e]
theorem one_of (x i : Nat) (hx : x < 4294967296) (hi : i < 32) : x = x ||| 2 ^ i ∨ x = cut x i := by
  cases h : x.testBit i with
  | true => exact .inl (or_same x i h).symm
  | false =>
    right
    apply Nat.eq_of_testBit_eq
    intro j
    rw [cut_bit x i j hx hi]
    by_cases e : i = j
    · subst e; simp [h]
    · simp [e]
theorem at_rank (y i : Nat) (hi : i < 32) (hb : y.testBit i = true) : ∃ h : rk y (i : Int) < (low y 32).length, (low y 32)[rk y (i : Int)]'h = i := by
  obtain ⟨k, hk, he⟩ := List.getElem_of_mem (mem_low.2 ⟨hi, hb⟩)
  have hr := rank_of y k hk
  rw [he] at hr
  exact ⟨by rw [hr]; exact hk, by simp only [hr]; exact he⟩
/-- how many have come -/
def Cnt (B mb s : Nat) (w : World) (pre : List Nat) (W : World) : Prop :=
  W.heap[mb]? = some (.cells #[.int .i64 pre.length] 3) ∧ W.heap[B]? = some (.cells #[.int .u8 s] 5) ∧ Tab W ∧ Below B w W ∧ mb + 1 < W.heap.size
theorem cnt_near {B mb s C : Nat} {w W W' : World} {pre : List Nat} (h : Cnt B mb s w pre W) (hn : Near (mb + 1) C W W') (hB0 : 0 < B) (hB : B < mb) (hC : B ≤ C) : Cnt B mb s w pre W' := by
  obtain ⟨h1, h2, h3, h4, h5⟩ := h
  exact ⟨hn.same _ _ h1 (by omega) (.inr rfl), hn.same _ _ h2 (by omega) (.inr rfl), tab_near h3 hn (by omega), below_near h4 hn (by omega) hC (by omega), by have := hn.size; omega⟩
theorem cnt_cells {B mb s : Nat} {w W : World} {pre : List Nat} (h : Cnt B mb s w pre W) : W.cell? ⟨mb, 0, none⟩ = some (.int .i64 pre.length) ∧ W.frozen? ⟨mb, 0, none⟩ = false ∧ W.cell? ⟨B, 0, none⟩ = some (.int .u8 s) := by
  obtain ⟨h1, h2, _⟩ := h
  exact ⟨by simp [World.cell?, h1], by simp [World.frozen?, h1], by simp [World.cell?, h2]⟩
theorem cnt_more {B mb s : Nat} {w W : World} {pre : List Nat} (k : Nat) (h : Cnt B mb s w pre W) (hB0 : 0 < B) (hB : B < mb) : Cnt B mb s w (pre ++ [k]) (W.setCell ⟨mb, 0, none⟩ (.int .i64 ((pre.length : Int) + 1))) ∧
    Leave (mb + 1) (mb + 2) W (W.setCell ⟨mb, 0, none⟩ (.int .i64 ((pre.length : Int) + 1))) := by
  obtain ⟨h1, h2, h3, h4, h5⟩ := h
  have hb : Below B w (W.setCell ⟨mb, 0, none⟩ (.int .i64 ((pre.length : Int) + 1))) := h4.setCell (p := ⟨mb, 0, none⟩) (by show B ≤ mb; omega) _
  have hw : ∀ q, q ≠ mb → (W.setCell ⟨mb, 0, none⟩ (.int .i64 ((pre.length : Int) + 1))).heap[q]? = W.heap[q]? := fun q hq => Below.heap_setCell _ _ _ _ hq
  refine ⟨⟨?_, (hw B (by omega)).trans h2, ?_, hb, by simpa [World.setCell] using h5⟩, by simp [World.setCell], hw _ (by omega), fun q o hq ho hnc => ?_⟩
  · simp only [World.setCell, Array.getElem?_modify, if_true, h1]
    simp [List.length_append]
  · intro j hj
    have hc := h3 j hj
    rw [← hc]
    exact World.cell?_of_block (hw 0 (by omega))
  · exact (hw q (by omega)).trans ho

theorem hasB_in (z i : Nat) (hi : i < 32) : hasB z (i : Int) = z.testBit i := by
  unfold hasB
  rw [if_pos (by omega)]
  simp

set_option maxRecDepth 100000 in
set_option maxHeartbeats 4000000 in
theorem changes_out (x : Nat) (i : Int) (s : Nat) (w : World) (hx : x < 4294967296) (hi : i < 0 ∨ 32 ≤ i) :
    Calls Tryd.prog 3 #[.int .u32 x, .int .i64 i, .int .u8 s] w fun e w' => e = .returned (.bool true) ∧ Below w.heap.size w w' := by
  have hb0 : Below w.heap.size w (w.alloc (.cells #[.int .u8 s] 5)) := (Below.refl _ _).alloc (Nat.le_refl _) _
  have hnot : hasB x i = false := by unfold hasB; rw [if_neg (by omega)]
  go_enter Tryd.func3, Tryd.ntmps3
  go_wp2_with fail
  generalize w.alloc (.cells #[.int .u8 s] 5) = w0 at *
  refine (awake_any _).mono ?_
  rintro e w1 ⟨rfl, n1, rfl⟩
  have HB1 : Hid (Below w.heap.size w (w0.drewN n1)) := Lib.hid (below_drewN hb0 n1)
  clear hb0
  generalize w0.drewN n1 = w1 at HB1 ⊢
  go_wp2_with fail
  refine (list_any x _ hx).mono ?_
  rintro e w2 ⟨v, rfl, hown, hb2⟩
  have HB2 := Lib.hid (HB1.out.trans (hb2.mono HB1.out.size))
  clear hown hb2 HB1
  by_cases hg : 0 ≤ i
  · have hlt : decide (i < 32) = false := decide_eq_false (by omega)
    go_wp2_with fail
    refine (with_out x i _ hi).mono ?_
    rintro e w' ⟨rfl, rfl⟩
    go_wp2_with fail
    refine (without_out x i _ hi).mono ?_
    rintro e w' ⟨rfl, rfl⟩
    go_wp2_with fail
    refine (has_any x i _ hx).mono ?_
    rintro e w' ⟨rfl, rfl⟩
    rw [hnot]
    go_wp2_with fail
    all_goals go_ret
    all_goals exact ⟨rfl, HB2.out⟩
  · have hlt : decide (0 ≤ i) = false := decide_eq_false (by omega)
    go_wp2_with fail
    refine (with_out x i _ hi).mono ?_
    rintro e w' ⟨rfl, rfl⟩
    go_wp2_with fail
    refine (without_out x i _ hi).mono ?_
    rintro e w' ⟨rfl, rfl⟩
    go_wp2_with fail
    refine (has_any x i _ hx).mono ?_
    rintro e w' ⟨rfl, rfl⟩
    rw [hnot]
    go_wp2_with fail
    all_goals go_ret
    all_goals exact ⟨rfl, HB2.out⟩

set_option maxRecDepth 100000 in
set_option maxHeartbeats 8000000 in
theorem changes_in (x i s : Nat) (w : World) (hx : x < 4294967296) (hi : i < 32) (hs : s < 256) (hT : Tab w) (h0 : 0 < w.heap.size) :
    CallsIn Fence.wide 8 Tryd.prog 3 #[.int .u32 x, .int .i64 i, .int .u8 s] w fun e w' => e = .returned (.bool true) ∧ Below w.heap.size w w' := by
  obtain ⟨i0, hi0, hz0, hz1, hz2⟩ := info_parts Tryd.info3
  have hb0 : Below w.heap.size w (w.alloc (.cells #[.int .u8 s] 5)) := (Below.refl _ _).alloc (Nat.le_refl _) _
  have hs0 : (w.alloc (.cells #[.int .u8 s] 5)).heap.size = w.heap.size + 1 := by simp
  have hbx0 : (w.alloc (.cells #[.int .u8 s] 5)).heap[w.heap.size]? = some (.cells #[.int .u8 s] 5) := World.alloc_heap_new w _
  have hT0 := tab_below hT hb0 h0
  refine callsIn_of_wp_marks Tryd.func3 rfl trivial ?_ rfl
  simp only [Tryd.ntmps3, List.size_toArray, List.length_cons, List.length_nil, Nat.reduceAdd, Nat.reduceSub, Array.replicate_succ, Array.replicate_zero, List.push_toArray, List.append_toArray, List.nil_append, List.cons_append]
  gi_wp2
  generalize w.alloc (.cells #[.int .u8 s] 5) = w0 at *
  refine ⟨trivial, (callsIn_wide.2 (awake_any _)).mono ?_⟩
  rintro e w1 ⟨rfl, n1, rfl⟩
  have HB1 : Hid (Below w.heap.size w (w0.drewN n1)) := Lib.hid (below_drewN hb0 n1)
  have HX1 : Hid ((w0.drewN n1).heap[w.heap.size]? = some (.cells #[.int .u8 s] 5)) := Lib.hid hbx0
  have HT1 : Hid (Tab (w0.drewN n1)) := Lib.hid hT0
  have hs1 : (w0.drewN n1).heap.size = w.heap.size + 1 := hs0
  clear hb0 hs0 hbx0 hT0
  generalize w0.drewN n1 = w1 at *
  gi_wp2
  refine ⟨trivial, (callsIn_wide.2 (list_any x _ hx)).mono ?_⟩
  rintro e w2 ⟨v, rfl, hown, hb2⟩
  rw [hs1] at hown hb2
  have HB2 := Lib.hid (HB1.out.trans (hb2.mono (by omega)))
  have HX2 := Lib.hid ((hb2.block w.heap.size (by omega)).trans HX1.out)
  have HT2 := Lib.hid (tab_below HT1.out hb2 (by omega))
  have HO2 := Lib.hid hown
  have HS2 := Lib.hid (show w.heap.size + 1 ≤ w2.heap.size by have := hb2.size; omega)
  clear hown hb2 HB1 HX1 HT1 hs1
  obtain ⟨a, cap, rfl⟩ : ∃ (a : Option Addr) (cap : Nat), v = .slice a (low x 32).length cap := by
    obtain ⟨a, cap, h, _⟩ := own_open HO2.out
    exact ⟨a, cap, h⟩
  have hl := low_le x 32
  gi_wp2
  refine ⟨trivial, (callsIn_wide.2 (with_in x i _ hx hi)).mono ?_⟩
  rintro e w' ⟨rfl, rfl⟩
  gi_wp2
  refine ⟨trivial, (callsIn_wide.2 (without_in x i _ hx hi)).mono ?_⟩
  rintro e w' ⟨rfl, rfl⟩
  have hY := or_lt x i hx hi
  have hZ := cut_lt x i hx
  have hYb : (x ||| 2 ^ i).testBit i = true := by rw [or_bit]; simp
  have hZb := cut_off x i hx hi
  have hmem : ∀ j, j < 32 → (j ∈ low x 32 ++ [i] ↔ (x ||| 2 ^ i).testBit j = true) := by
    intro j hj
    rw [List.mem_append, mem_low, List.mem_singleton, or_bit]
    by_cases e : i = j
    · subst e; simp
    · have e' : ¬ j = i := fun h => e h.symm
      simp [hj, e, e']
  have hcY : cut (x ||| 2 ^ i) i = cut x i := cut_or x i hx hi
  have hoZ : cut x i ||| 2 ^ i = x ||| 2 ^ i := or_cut x i hx hi
  have hone := one_of x i hx hi
  have hrk : rk (x ||| 2 ^ i) (i : Int) = rk (cut x i) (i : Int) := by
    rw [rk_nat _ i (by omega), rk_nat _ i (by omega), ← hoZ, or_ones _ i hZb]; simp
  have hct : ones 32 (x ||| 2 ^ i) = ones 32 (cut x i) + 1 := by
    rw [← hoZ, or_ones _ i hZb, if_pos hi]
  have hat := at_rank (x ||| 2 ^ i) i hi hYb
  have hco := ones_le 32 (cut x i)
  have hasY := hasB_in (x ||| 2 ^ i) i hi
  have hasZ := hasB_in (cut x i) i hi
  rw [hYb] at hasY
  rw [hZb] at hasZ
  clear hYb hZb
  have HMem := Lib.hid hmem
  have HCY := Lib.hid hcY
  have HOZ := Lib.hid hoZ
  have HRK := Lib.hid hrk
  have HCT := Lib.hid hct
  have HAT := Lib.hid hat
  have HHY := Lib.hid hasY
  have HHZ := Lib.hid hasZ
  have hdi : decide ((i : Int) < 32) = true := decide_eq_true (by omega)
  clear hmem hcY hoZ hrk hct hat hasY hasZ
  generalize x ||| 2 ^ i = Y at *
  generalize cut x i = Z at *
  have hZa : w.heap.size + 1 ≤ (w2.alloc (.cells #[.int .i64 (i : Int)] 3)).heap.size := by have := HS2.out; simp; omega
  have h1c : ∀ u ∈ [Value.int .i64 (i : Int)], u.oneCell' = true := by intro u hu; simp at hu; subst hu; rfl
  have hmx : (low x 32).length + 1 ≤ maxLen := by unfold maxLen; omega
  have hsplit : x = Y ∨ (((x : Int) != (Y : Int)) = true ∧ x = Z) := by
    by_cases e : x = Y
    · exact .inl e
    · rcases hone with h | h
      · exact absurd h e
      · exact .inr ⟨by rw [bne_iff_ne]; omega, h⟩
  clear hone
  rcases hsplit with rfl | ⟨hne, rfl⟩
  all_goals
    gi_wp2_with (gi_at_builtin; refine wpListIn_append_own _ rfl _ _ 25 rfl (w.heap.size + 1) 3 i0 (.int .i64 0) 1 8 Tryd.underlying25 hi0 hz0 hz1 hz2 rfl (by decide) _ _ _ rfl (HO2.out.alloc _) ⟨w2.heap.size, 0, none⟩ 1 1 [.int .i64 (i : Int)] rfl rfl (cell_one_new w2 (.int .i64 (i : Int)) 3) h1c hmx (by omega) hZa ?_)
    intro v' w3 hown3 hgrow3 _
    have hb3 : Below (w.heap.size + 1) w2 w3 := Below.grown ((Below.refl _ w2).alloc (by have := HS2.out; omega) _) hgrow3 hZa (fun g hg => (HO2.out.lt g hg).1)
    have HB3 := Lib.hid (HB2.out.trans (hb3.mono (by omega)))
    have HX3 := Lib.hid ((hb3.block w.heap.size (by omega)).trans HX2.out)
    have HT3 := Lib.hid (tab_below HT2.out hb3 (by omega))
    have HO3 : Hid (w3.ownsRow (w.heap.size + 1) 3 1 v' (low x 32 ++ [i]).length ((low x 32 ++ [i]).map num)) := Lib.hid (by simpa [num] using hown3)
    have HS3 := Lib.hid (show w.heap.size + 1 ≤ w3.heap.size by have := hb3.size; have := HS2.out; omega)
    clear hown3 hgrow3 hb3
    gi_wp2
    refine ⟨trivial, (callsIn_wide.2 (of_any (low x 32 ++ [i]) _ _ _ _ hY (by simp; omega) HMem.out HO3.out)).mono ?_⟩
    rintro e w' ⟨rfl, rfl⟩
    gi_wp2
    refine ⟨trivial, (callsIn_wide.2 (has_any _ (i : Int) _ hY)).mono ?_⟩
    rintro e w' ⟨rfl, rfl⟩
    rw [HHY.out]
    gi_wp2
    refine ⟨trivial, (callsIn_wide.2 (has_any _ (i : Int) _ hZ)).mono ?_⟩
    rintro e w' ⟨rfl, rfl⟩
    rw [HHZ.out]
    gi_wp2
    refine ⟨trivial, (callsIn_wide.2 (without_in _ i _ hY hi)).mono ?_⟩
    rintro e w' ⟨rfl, rfl⟩
    rw [HCY.out]
    gi_wp2
    refine ⟨trivial, (callsIn_wide.2 (with_in _ i _ hZ hi)).mono ?_⟩
    rintro e w' ⟨rfl, rfl⟩
    rw [HOZ.out]
    gi_wp2
    refine ⟨trivial, (callsIn_wide.2 (rank_any _ (i : Int) _ hY)).mono ?_⟩
    rintro e w4 ⟨rfl, n4, rfl⟩
    have HB4 : Hid (Below w.heap.size w (w3.drewN n4)) := Lib.hid (below_drewN HB3.out n4)
    have HX4 : Hid ((w3.drewN n4).heap[w.heap.size]? = some (.cells #[.int .u8 s] 5)) := HX3
    have HT4 : Hid (Tab (w3.drewN n4)) := HT3
    have HS4 : Hid (w.heap.size + 1 ≤ (w3.drewN n4).heap.size) := HS3
    generalize w3.drewN n4 = w4 at *
    obtain ⟨hrl, hre⟩ := HAT.out
    gi_wp2
    refine ⟨trivial, (callsIn_wide.2 (nth_in _ _ _ hY HT4.out hrl)).mono ?_⟩
    rintro e w5 ⟨rfl, n5, rfl⟩
    rw [hre]
    have HB5 : Hid (Below w.heap.size w (w4.drewN n5)) := Lib.hid (below_drewN HB4.out n5)
    have HX5 : Hid ((w4.drewN n5).heap[w.heap.size]? = some (.cells #[.int .u8 s] 5)) := HX4
    have HT5 : Hid (Tab (w4.drewN n5)) := HT4
    have HS5 : Hid (w.heap.size + 1 ≤ (w4.drewN n5).heap.size) := HS4
    clear hrl hre HB3 HX3 HT3 HS3 HB4 HX4 HT4 HS4 HO3
    generalize w4.drewN n5 = w5 at *
    have HX6 : Hid ((w5.alloc (.cells #[.int .i64 0] 3)).heap[w.heap.size]? = some (.cells #[.int .u8 s] 5)) := Lib.hid ((Below.heap_alloc w5 _ _ (by have := HS5.out; omega)).trans HX5.out)
    have HM6 : Hid ((w5.alloc (.cells #[.int .i64 0] 3)).heap[w5.heap.size]? = some (.cells #[.int .i64 0] 3)) := Lib.hid (World.alloc_heap_new w5 _)
    have HB6 : Hid (Below w.heap.size w (w5.alloc (.cells #[.int .i64 0] 3))) := Lib.hid (HB5.out.alloc (by have := HS5.out; omega) _)
    have hz6 : (w5.alloc (.cells #[.int .i64 0] 3)).heap.size = w5.heap.size + 1 := by simp
    have hmb : w.heap.size < w5.heap.size := by have := HS5.out; omega
    clear HX5 HB5 HS5 HT5
    gi_wp2
    generalize w5.alloc (.cells #[.int .i64 0] 3) = w6 at *
    generalize w5.heap.size = mb at *
    refine ⟨trivial, (callsIn_wide.2 (all_any x _)).mono ?_⟩
    rintro e w7 ⟨rfl, rfl⟩
    have hz7 : (w6.alloc (boxB x)).heap.size = mb + 2 := by simp [hz6]
    have hbox : (w6.alloc (boxB x)).heap[mb + 1]? = some (boxB x) := by rw [← hz6]; exact World.alloc_heap_new w6 _
    have hb7 : Below w.heap.size w (w6.alloc (boxB x)) := HB6.out.alloc (by omega) _
    have hC7 : Cnt w.heap.size mb s w [] (w6.alloc (boxB x)) :=
      ⟨(Below.heap_alloc w6 _ _ (by omega)).trans HM6.out, (Below.heap_alloc w6 _ _ (by omega)).trans HX6.out, tab_below hT hb7 h0, hb7, by omega⟩
    rw [hz6]
    have HC7 := Lib.hid hC7
    have HBX := Lib.hid hbox
    have HZ7 := Lib.hid hz7
    clear hC7 hbox hz7 hb7 HX6 HM6 HB6 hz6
    generalize w6.alloc (boxB x) = w7 at *
    gi_wp2
    refine range_skip (x := x) (Bc := mb + 1) (by decide) hx rfl HBX.out
      (fun pre W => Cnt w.heap.size mb s w pre W ∧ pre.length ≤ s % 40) (fun c pre W => c = .exit 0 ∧ Cnt w.heap.size mb s w pre W ∧ pre.length = s % 40 + 1)
      (fun pre W W' h hn => ⟨cnt_near h.1 hn h0 hmb (by have := HZ7.out; omega), h.2⟩)
      (fun c pre W W' h hn => ⟨h.1, cnt_near h.2.1 hn h0 hmb (by have := HZ7.out; omega), h.2.2⟩)
      (fun pre W h => h.1.2.2.1) ⟨HC7.out, by simp⟩ ?body ?done ?stop
    case body =>
      rintro l pre k W ⟨hC, hlen⟩ hpre hle
      rw [HZ7.out]
      obtain ⟨hc1, hf1, hs1⟩ := cnt_cells hC
      obtain ⟨hC2, hL2⟩ := cnt_more k hC h0 hmb
      obtain ⟨hc2, hf2, hs2⟩ := cnt_cells hC2
      have el : (((pre ++ [k]).length : Nat) : Int) = (pre.length : Int) + 1 := by simp
      rw [el] at hc2
      have HCC := Lib.hid hC2
      have HLL := Lib.hid hL2
      have hm : s % 40 < 40 := Nat.mod_lt _ (by decide)
      have elN : (pre ++ [k]).length = pre.length + 1 := by simp
      clear hC hC2 hL2 HC7 HBX HZ7
      dsimp only
      by_cases hgt : pre.length + 1 ≤ s % 40
      · gi_wp2
        exact ⟨HLL.out, HCC.out, by omega⟩
      · gi_wp2
        exact ⟨HLL.out, rfl, HCC.out, by omega⟩
    case done =>
      rintro D W hD ⟨hC, hlen⟩ hK
      obtain ⟨hc1, hf1, hs1⟩ := cnt_cells hC
      have HBW := Lib.hid hC.2.2.2.1
      have hmin : (low x 32).length ≤ s % 40 + 1 := by omega
      clear hC HC7 HBX
      dsimp only
      gi_wp2
      refine ⟨trivial, (callsIn_wide.2 (rank_any _ (i : Int) _ hY)).mono ?_⟩
      rintro e wA ⟨rfl, nA, rfl⟩
      rw [HRK.out]
      gi_wp2
      refine ⟨trivial, (callsIn_wide.2 (rank_any _ (i : Int) _ hZ)).mono ?_⟩
      rintro e wB ⟨rfl, nB, rfl⟩
      gi_wp2
      refine ⟨trivial, (callsIn_wide.2 (count_any _ _ hY)).mono ?_⟩
      rintro e wC ⟨rfl, nC, rfl⟩
      rw [HCT.out]
      gi_wp2
      refine ⟨trivial, (callsIn_wide.2 (count_any _ _ hZ)).mono ?_⟩
      rintro e wD ⟨rfl, nD, rfl⟩
      gi_wp2
      all_goals
        refine ⟨by simp, .inl ⟨_, _, rfl, run_takeDeferred (show (W.drewN (nA + nB + nC + nD)).heap[D]? = _ from hK), ?_⟩⟩
        refine ⟨_, results_tmp (show Tryd.f3.results = #[ResultVar.tmp 6] from rfl) _ _ _, ?_, ?_⟩
        · first
          | rfl
          | exact ret_bool (by rw [beq_iff_eq]; omega)
        · exact (below_drewN HBW.out _).grown (grownBy_putObj' _ D (.deferred none)) (below_drewN HBW.out _).size (fun q e => by cases e; have := HZ7.out; omega)
    case stop =>
      rintro D c pre W hD hpre ⟨rfl, hC, hlen⟩ hK
      obtain ⟨hc1, hf1, hs1⟩ := cnt_cells hC
      rw [hlen] at hc1
      have HBW := Lib.hid hC.2.2.2.1
      have hmin : s % 40 + 1 ≤ (low x 32).length := by have := hpre.length_le; omega
      clear hC HC7 HBX
      dsimp only
      gi_wp2
      refine ⟨trivial, (callsIn_wide.2 (rank_any _ (i : Int) _ hY)).mono ?_⟩
      rintro e wA ⟨rfl, nA, rfl⟩
      rw [HRK.out]
      gi_wp2
      refine ⟨trivial, (callsIn_wide.2 (rank_any _ (i : Int) _ hZ)).mono ?_⟩
      rintro e wB ⟨rfl, nB, rfl⟩
      gi_wp2
      refine ⟨trivial, (callsIn_wide.2 (count_any _ _ hY)).mono ?_⟩
      rintro e wC ⟨rfl, nC, rfl⟩
      rw [HCT.out]
      gi_wp2
      refine ⟨trivial, (callsIn_wide.2 (count_any _ _ hZ)).mono ?_⟩
      rintro e wD ⟨rfl, nD, rfl⟩
      gi_wp2
      all_goals
        refine ⟨by simp, .inl ⟨_, _, rfl, run_takeDeferred (show (W.drewN (nA + nB + nC + nD)).heap[D]? = _ from hK), ?_⟩⟩
        refine ⟨_, results_tmp (show Tryd.f3.results = #[ResultVar.tmp 6] from rfl) _ _ _, ?_, ?_⟩
        · first
          | rfl
          | exact ret_bool (by rw [beq_iff_eq]; omega)
        · exact (below_drewN HBW.out _).grown (grownBy_putObj' _ D (.deferred none)) (below_drewN HBW.out _).size (fun q e => by cases e; have := HZ7.out; omega)

theorem changes_walk (x : Nat) (i : Int) (s : Nat) (w : World) (hx : x < 4294967296) (hs : s < 256) (hT : Tab w) (h0 : 0 < w.heap.size) :
    Calls Tryd.prog 3 #[.int .u32 x, .int .i64 i, .int .u8 s] w fun e w' => e = .returned (.bool true) ∧ Below w.heap.size w w' := by
  by_cases h : 0 ≤ i ∧ i < 32
  · have e : i = (i.toNat : Int) := by omega
    have := callsIn_wide.1 (changes_in x i.toNat s w hx (by omega) hs hT h0)
    rw [← e] at this
    exact this
  · exact changes_out x i s w hx (by omega)
end Go.Proofs.YtgedhcfbjbmniaaDoor
