/-
  The walk of ChunkSets.
-/
import Derived.Test.YtgedhcfbjbmniaaDoorCollect
namespace Go.Proofs.YtgedhcfbjbmniaaDoor
open Go.RowKit
set_option linter.unusedVariables false

/-- is i in? -/
def hasB (x : Nat) (i : Int) : Bool := if 0 ≤ i ∧ i < 32 then x.testBit i.toNat else false
theorem hasB_iff (x : Nat) (i : Int) : hasB x i = true ↔ ∃ k ∈ low x 32, (k : Int) = i := by
  unfold hasB
  by_cases h : 0 ≤ i ∧ i < 32
  · rw [if_pos h]
    constructor
    · intro hb; exact ⟨i.toNat, mem_low.2 ⟨by omega, hb⟩, by omega⟩
    · rintro ⟨k, hk, rfl⟩
      have := (mem_low.1 hk).2
      simpa using this
  · rw [if_neg h]
    constructor
    · intro hb; cases hb
    · rintro ⟨k, hk, rfl⟩
      have := (mem_low.1 hk).1
      omega
theorem has_any (x : Nat) (i : Int) (w : World) (hx : x < 4294967296) : Calls Tryd.prog 10 #[.int .u32 x, .int .i64 i] w fun e w' => e = .returned (.bool (hasB x i)) ∧ w = w' := by
  unfold hasB
  by_cases h : 0 ≤ i ∧ i < 32
  · rw [if_pos h]
    have e : i = (i.toNat : Int) := by omega
    have := has_in x i.toNat w hx (by omega)
    rw [← e] at this
    exact this
  · rw [if_neg h]
    exact has_out x i w (by omega)
theorem own_below {B B' n : Nat} {v : Value} {xs : List Value} {w w' : World} (h : w.ownsRow B 3 1 v n xs) (hb : Below B' w w') (hB : w.heap.size ≤ B') : w'.ownsRow B 3 1 v n xs := by
  refine ⟨h.1, ?_⟩
  rcases h.2 with hn | ⟨g, cap, cur, rfl, hbg, hg, rest⟩
  · exact .inl hn
  · have := (Array.getElem?_eq_some_iff.1 hg).1
    exact .inr ⟨g, cap, cur, rfl, hbg, (hb.block g (by omega)).trans hg, rest⟩
/-- what Nth answers -/
theorem nth_any (x : Nat) (k : Int) (w : World) (hx : x < 4294967296) (hT : Tab w) :
    Calls Tryd.prog 12 #[.int .u32 x, .int .i64 k] w fun e w' => (∃ (r : Nat) (ok : Bool), e = .returned (.tuple #[.int .i64 r, .bool ok]) ∧ ((ok = true ∧ 0 ≤ k ∧ k < (low x 32).length ∧ (low x 32)[k.toNat]? = some r) ∨ (ok = false ∧ r = 0 ∧ (k < 0 ∨ ((low x 32).length : Int) ≤ k)))) ∧ ∃ n, w' = w.drewN n := by
  by_cases h : 0 ≤ k ∧ k < (low x 32).length
  · have e : k = (k.toNat : Int) := by omega
    have hl : k.toNat < (low x 32).length := by omega
    have := nth_in x k.toNat w hx hT hl
    rw [← e] at this
    exact Calls.mono this fun e w' ⟨he, hw⟩ => ⟨⟨_, true, he, .inl ⟨rfl, h.1, h.2, List.getElem?_eq_getElem hl⟩⟩, hw⟩
  · refine Calls.mono (nth_out x k w hx (by omega)) fun e w' ⟨he, hw⟩ => ⟨⟨0, false, he, .inr ⟨rfl, rfl, by omega⟩⟩, hw⟩

theorem nat_u32 (a : Int) (h : (Lit.int .u32 a).wf = true) : ∃ x : Nat, a = x ∧ x < 4294967296 := by
  have hm : IntKind.u32.min = 0 := rfl
  have hx : IntKind.u32.max = 4294967295 := rfl
  simp only [Lit.wf, Bool.and_eq_true, decide_eq_true_eq] at h
  exact ⟨a.toNat, by omega, by omega⟩
theorem nat_u8 (a : Int) (h : (Lit.int .u8 a).wf = true) : ∃ x : Nat, a = x ∧ x < 256 := by
  have hm : IntKind.u8.min = 0 := rfl
  have hx : IntKind.u8.max = 255 := rfl
  simp only [Lit.wf, Bool.and_eq_true, decide_eq_true_eq] at h
  exact ⟨a.toNat, by omega, by omega⟩

set_option maxRecDepth 100000 in
set_option maxHeartbeats 4000000 in
theorem sets_walk (x : Nat) (i k : Int) (w : World) (hx : x < 4294967296) (hT : Tab w) (h0 : 0 < w.heap.size) :
    Calls Tryd.prog 5 #[.int .u32 x, .int .i64 i, .int .i64 k] w fun e w' => e = .returned (.bool true) ∧ Below w.heap.size w w' := by
  have HT := Lib.hid hT
  clear hT
  go_enter Tryd.func5, Tryd.ntmps5
  go_wp2_with fail
  refine (awake_any _).mono ?_
  rintro e w1 ⟨rfl, n1, rfl⟩
  have HT1 : Hid (Tab (w.drewN n1)) := HT
  have HB1 : Hid (Below w.heap.size w (w.drewN n1)) := Lib.hid (below_drewN (Below.refl _ _) n1)
  have hs1 : (w.drewN n1).heap.size = w.heap.size := rfl
  generalize w.drewN n1 = w1 at HT1 HB1 hs1 ⊢
  go_wp2_with fail
  refine (list_any x _ hx).mono ?_
  rintro e w2 ⟨v, rfl, hown, hb2⟩
  rw [hs1] at hown hb2
  have HB2 := Lib.hid (HB1.out.trans hb2)
  have HT2 := Lib.hid (tab_below HT1.out hb2 h0)
  have HO := Lib.hid hown
  have hl := low_le x 32
  have HO1 := Lib.hid (show ((ones 32 x : Nat) : Int) = ((low x 32).length : Int) by rw [low_len])
  have HHas := Lib.hid (hasB_iff x i)
  clear hown hb2 HB1 HT1 hs1 HT
  go_wp2_with fail
  refine (contains_any (low x 32) i v _ _ (by omega) HO.out).mono ?_
  rintro e w' ⟨⟨bb, rfl, hbb⟩, rfl⟩
  have hb : bb = hasB x i := by rw [Bool.eq_iff_iff, hbb, HHas.out]
  subst hb
  clear hbb
  go_wp2_with fail
  refine (nth_any x k _ hx HT2.out).mono ?_
  rintro e w3 ⟨⟨r, ok, rfl, hr⟩, n3, rfl⟩
  have HT3 : Hid (Tab (w2.drewN n3)) := HT2
  have HB3 : Hid (Below w.heap.size w (w2.drewN n3)) := Lib.hid (below_drewN HB2.out n3)
  have HO3 : Hid ((w2.drewN n3).ownsRow w.heap.size 3 1 v (low x 32).length ((low x 32).map num)) := HO
  generalize w2.drewN n3 = w3 at HT3 HB3 HO3 ⊢
  clear HT2 HB2 HO
  obtain ⟨a, cap, rfl, hcell⟩ := own_open HO3.out
  rcases hr with ⟨rfl, hk0, hk1, hget⟩ | ⟨rfl, rfl, hk⟩
  · obtain ⟨g, rfl, hc⟩ := hcell (by omega)
    have hkl : k.toNat < (low x 32).length := by omega
    have cK3 : w3.cell? ⟨g, k.toNat, none⟩ = some (.int .i64 (r : Nat)) := by
      have h1 := hc k.toNat hkl
      rw [List.getElem?_eq_getElem hkl] at hget
      injection hget with hget
      rw [hget] at h1; exact h1
    clear hc hget
    go_wp2_with fail
    refine (has_any x i _ hx).mono ?_
    rintro e w' ⟨rfl, rfl⟩
    go_wp2_with fail
    refine (count_any x _ hx).mono ?_
    rintro e w4 ⟨rfl, n4, rfl⟩
    rw [HO1.out]
    have HT4 : Hid (Tab (w3.drewN n4)) := HT3
    have HB4 : Hid (Below w.heap.size w (w3.drewN n4)) := Lib.hid (below_drewN HB3.out n4)
    have HO4 : Hid ((w3.drewN n4).ownsRow w.heap.size 3 1 (.slice (some ⟨g, 0, none⟩) (low x 32).length cap) (low x 32).length ((low x 32).map num)) := HO3
    have cK4 : (w3.drewN n4).cell? ⟨g, k.toNat, none⟩ = some (.int .i64 (r : Nat)) := cK3
    clear HT3 HB3 HO3 cK3
    generalize w3.drewN n4 = w4 at *
    go_wp2_with fail
    refine (rank_any x i _ hx).mono ?_
    rintro e w5 ⟨rfl, n5, rfl⟩
    have HT5 : Hid (Tab (w4.drewN n5)) := HT4
    have HB5 : Hid (Below w.heap.size w (w4.drewN n5)) := Lib.hid (below_drewN HB4.out n5)
    have HO5 : Hid ((w4.drewN n5).ownsRow w.heap.size 3 1 (.slice (some ⟨g, 0, none⟩) (low x 32).length cap) (low x 32).length ((low x 32).map num)) := HO4
    have cK5 : (w4.drewN n5).cell? ⟨g, k.toNat, none⟩ = some (.int .i64 (r : Nat)) := cK4
    clear HT4 HB4 HO4 cK4
    generalize w4.drewN n5 = w5 at *
    go_wp2_with fail
    refine (refrank_any x i _ hx).mono ?_
    rintro e w6 ⟨rfl, hb6⟩
    have HG5 := Lib.hid (show g < w5.heap.size from (HO5.out.lt g rfl).2)
    have HT6 := Lib.hid (tab_below HT5.out hb6 (Nat.lt_of_lt_of_le h0 HB5.out.size))
    have HB6 := Lib.hid (HB5.out.trans (hb6.mono HB5.out.size))
    have HO6 := Lib.hid (own_below HO5.out hb6 (Nat.le_refl _))
    have cK6 : w6.cell? ⟨g, k.toNat, none⟩ = some (.int .i64 (r : Nat)) := (hb6.cell (HG5.out)).trans cK5
    clear HT5 HB5 HO5 hb6 cK5
    go_wp2_with fail
    refine (all_any x _).mono ?_
    rintro e w7 ⟨rfl, rfl⟩
    have hb7 : Below w6.heap.size w6 (w6.alloc (boxB x)) := (Below.refl _ _).alloc (Nat.le_refl _) _
    have hbox : (w6.alloc (boxB x)).heap[w6.heap.size]? = some (boxB x) := World.alloc_heap_new w6 _
    have hp6 : 0 < w6.heap.size := Nat.lt_of_lt_of_le h0 HB6.out.size
    have HT7 := Lib.hid (tab_below HT6.out hb7 hp6)
    have HO7 := Lib.hid (own_below HO6.out hb7 (Nat.le_refl _))
    have HB7 := Lib.hid (HB6.out.trans (hb7.mono HB6.out.size))
    have HBox := Lib.hid hbox
    have HLe := Lib.hid (show w.heap.size ≤ w6.heap.size from HB6.out.size)
    have HP6 := Lib.hid hp6
    have HS7 := Lib.hid (show w6.heap.size ≤ (w6.alloc (boxB x)).heap.size by simp)
    have HOld := Lib.hid (show ∀ q, (Value.slice (some ⟨g, 0, none⟩) (low x 32).length cap).ownBlock = some q → q < w6.heap.size from fun q hq => (HO6.out.lt q hq).2)
    clear HT6 HB6 HO6 hbox hb7 hp6 cK6
    generalize w6.alloc (boxB x) = w7 at *
    generalize w6.heap.size = B6 at *
    go_wp2_with fail
    refine (collect_any x B6 B6 _ hx HBox.out HP6.out (Nat.le_refl _) HT7.out).mono ?_
    rintro e w8 ⟨v2, rfl, hv2, hb8⟩
    have HO8 : Hid (w8.ownsRow w.heap.size 3 1 (.slice (some ⟨g, 0, none⟩) (low x 32).length cap) (low x 32).length ((low x 32).map num)) := Lib.hid (by
      refine ⟨HO7.out.1, ?_⟩
      rcases HO7.out.2 with hn | ⟨g3, cp, cur, hv, hbg, hg, rest⟩
      · exact .inl hn
      · exact .inr ⟨g3, cp, cur, hv, hbg, (hb8.block g3 (HOld.out g3 (by rw [hv]; rfl))).trans hg, rest⟩)
    have HB8 := Lib.hid (HB7.out.trans (hb8.mono HLe.out))
    have HV2 := Lib.hid hv2
    clear hv2 hb8 HO7 HB7 HT7 HBox HS7 HOld
    go_wp2_with fail
    refine (equal_same (low x 32) _ _ _ _ _ (by omega) HV2.out HO8.out).mono ?_
    rintro e w9 ⟨rfl, n9, rfl⟩
    have HO9 : Hid ((w8.drewN n9).ownsRow w.heap.size 3 1 (.slice (some ⟨g, 0, none⟩) (low x 32).length cap) (low x 32).length ((low x 32).map num)) := HO8
    have HB9 : Hid (Below w.heap.size w (w8.drewN n9)) := Lib.hid (below_drewN HB8.out n9)
    clear HO8 HB8 HV2
    generalize w8.drewN n9 = w9 at *
    go_wp2_with fail
    refine (of_any (low x 32) x _ _ _ hx (by omega) (fun j hj => by rw [mem_low]; simp [hj]) HO9.out).mono ?_
    rintro e w' ⟨rfl, rfl⟩
    go_wp2_with fail
    all_goals go_ret
    all_goals exact ⟨rfl, HB9.out⟩
  · clear hcell
    rcases hk with hk | hk
    · go_wp2_with fail
      refine (has_any x i _ hx).mono ?_
      rintro e w' ⟨rfl, rfl⟩
      go_wp2_with fail
      refine (count_any x _ hx).mono ?_
      rintro e w4 ⟨rfl, n4, rfl⟩
      rw [HO1.out]
      have HT4 : Hid (Tab (w3.drewN n4)) := HT3
      have HB4 : Hid (Below w.heap.size w (w3.drewN n4)) := Lib.hid (below_drewN HB3.out n4)
      have HO4 : Hid ((w3.drewN n4).ownsRow w.heap.size 3 1 (.slice a (low x 32).length cap) (low x 32).length ((low x 32).map num)) := HO3
      clear HT3 HB3 HO3
      generalize w3.drewN n4 = w4 at *
      go_wp2_with fail
      refine (rank_any x i _ hx).mono ?_
      rintro e w5 ⟨rfl, n5, rfl⟩
      have HT5 : Hid (Tab (w4.drewN n5)) := HT4
      have HB5 : Hid (Below w.heap.size w (w4.drewN n5)) := Lib.hid (below_drewN HB4.out n5)
      have HO5 : Hid ((w4.drewN n5).ownsRow w.heap.size 3 1 (.slice a (low x 32).length cap) (low x 32).length ((low x 32).map num)) := HO4
      clear HT4 HB4 HO4
      generalize w4.drewN n5 = w5 at *
      go_wp2_with fail
      refine (refrank_any x i _ hx).mono ?_
      rintro e w6 ⟨rfl, hb6⟩
      have HT6 := Lib.hid (tab_below HT5.out hb6 (Nat.lt_of_lt_of_le h0 HB5.out.size))
      have HB6 := Lib.hid (HB5.out.trans (hb6.mono HB5.out.size))
      have HO6 := Lib.hid (own_below HO5.out hb6 (Nat.le_refl _))
      clear HT5 HB5 HO5 hb6
      go_wp2_with fail
      refine (all_any x _).mono ?_
      rintro e w7 ⟨rfl, rfl⟩
      have hb7 : Below w6.heap.size w6 (w6.alloc (boxB x)) := (Below.refl _ _).alloc (Nat.le_refl _) _
      have hbox : (w6.alloc (boxB x)).heap[w6.heap.size]? = some (boxB x) := World.alloc_heap_new w6 _
      have hp6 : 0 < w6.heap.size := Nat.lt_of_lt_of_le h0 HB6.out.size
      have HT7 := Lib.hid (tab_below HT6.out hb7 hp6)
      have HO7 := Lib.hid (own_below HO6.out hb7 (Nat.le_refl _))
      have HB7 := Lib.hid (HB6.out.trans (hb7.mono HB6.out.size))
      have HBox := Lib.hid hbox
      have HLe := Lib.hid (show w.heap.size ≤ w6.heap.size from HB6.out.size)
      have HP6 := Lib.hid hp6
      have HS7 := Lib.hid (show w6.heap.size ≤ (w6.alloc (boxB x)).heap.size by simp)
      have HOld := Lib.hid (show ∀ q, (Value.slice a (low x 32).length cap).ownBlock = some q → q < w6.heap.size from fun q hq => (HO6.out.lt q hq).2)
      clear HT6 HB6 HO6 hbox hb7 hp6
      generalize w6.alloc (boxB x) = w7 at *
      generalize w6.heap.size = B6 at *
      go_wp2_with fail
      refine (collect_any x B6 B6 _ hx HBox.out HP6.out (Nat.le_refl _) HT7.out).mono ?_
      rintro e w8 ⟨v2, rfl, hv2, hb8⟩
      have HO8 : Hid (w8.ownsRow w.heap.size 3 1 (.slice a (low x 32).length cap) (low x 32).length ((low x 32).map num)) := Lib.hid (by
        refine ⟨HO7.out.1, ?_⟩
        rcases HO7.out.2 with hn | ⟨g3, cp, cur, hv, hbg, hg, rest⟩
        · exact .inl hn
        · exact .inr ⟨g3, cp, cur, hv, hbg, (hb8.block g3 (HOld.out g3 (by rw [hv]; rfl))).trans hg, rest⟩)
      have HB8 := Lib.hid (HB7.out.trans (hb8.mono HLe.out))
      have HV2 := Lib.hid hv2
      clear hv2 hb8 HO7 HB7 HT7 HBox HS7 HOld
      go_wp2_with fail
      refine (equal_same (low x 32) _ _ _ _ _ (by omega) HV2.out HO8.out).mono ?_
      rintro e w9 ⟨rfl, n9, rfl⟩
      have HO9 : Hid ((w8.drewN n9).ownsRow w.heap.size 3 1 (.slice a (low x 32).length cap) (low x 32).length ((low x 32).map num)) := HO8
      have HB9 : Hid (Below w.heap.size w (w8.drewN n9)) := Lib.hid (below_drewN HB8.out n9)
      clear HO8 HB8 HV2
      generalize w8.drewN n9 = w9 at *
      go_wp2_with fail
      refine (of_any (low x 32) x _ _ _ hx (by omega) (fun j hj => by rw [mem_low]; simp [hj]) HO9.out).mono ?_
      rintro e w' ⟨rfl, rfl⟩
      go_wp2_with fail
      all_goals go_ret
      all_goals exact ⟨rfl, HB9.out⟩
    · have hk5 : ¬ k < 0 := by omega
      have hk6 : decide (k < ((low x 32).length : Int)) = false := decide_eq_false (by omega)
      go_wp2_with fail
      refine (has_any x i _ hx).mono ?_
      rintro e w' ⟨rfl, rfl⟩
      go_wp2_with fail
      refine (count_any x _ hx).mono ?_
      rintro e w4 ⟨rfl, n4, rfl⟩
      rw [HO1.out]
      have HT4 : Hid (Tab (w3.drewN n4)) := HT3
      have HB4 : Hid (Below w.heap.size w (w3.drewN n4)) := Lib.hid (below_drewN HB3.out n4)
      have HO4 : Hid ((w3.drewN n4).ownsRow w.heap.size 3 1 (.slice a (low x 32).length cap) (low x 32).length ((low x 32).map num)) := HO3
      clear HT3 HB3 HO3
      generalize w3.drewN n4 = w4 at *
      go_wp2_with fail
      refine (rank_any x i _ hx).mono ?_
      rintro e w5 ⟨rfl, n5, rfl⟩
      have HT5 : Hid (Tab (w4.drewN n5)) := HT4
      have HB5 : Hid (Below w.heap.size w (w4.drewN n5)) := Lib.hid (below_drewN HB4.out n5)
      have HO5 : Hid ((w4.drewN n5).ownsRow w.heap.size 3 1 (.slice a (low x 32).length cap) (low x 32).length ((low x 32).map num)) := HO4
      clear HT4 HB4 HO4
      generalize w4.drewN n5 = w5 at *
      go_wp2_with fail
      refine (refrank_any x i _ hx).mono ?_
      rintro e w6 ⟨rfl, hb6⟩
      have HT6 := Lib.hid (tab_below HT5.out hb6 (Nat.lt_of_lt_of_le h0 HB5.out.size))
      have HB6 := Lib.hid (HB5.out.trans (hb6.mono HB5.out.size))
      have HO6 := Lib.hid (own_below HO5.out hb6 (Nat.le_refl _))
      clear HT5 HB5 HO5 hb6
      go_wp2_with fail
      refine (all_any x _).mono ?_
      rintro e w7 ⟨rfl, rfl⟩
      have hb7 : Below w6.heap.size w6 (w6.alloc (boxB x)) := (Below.refl _ _).alloc (Nat.le_refl _) _
      have hbox : (w6.alloc (boxB x)).heap[w6.heap.size]? = some (boxB x) := World.alloc_heap_new w6 _
      have hp6 : 0 < w6.heap.size := Nat.lt_of_lt_of_le h0 HB6.out.size
      have HT7 := Lib.hid (tab_below HT6.out hb7 hp6)
      have HO7 := Lib.hid (own_below HO6.out hb7 (Nat.le_refl _))
      have HB7 := Lib.hid (HB6.out.trans (hb7.mono HB6.out.size))
      have HBox := Lib.hid hbox
      have HLe := Lib.hid (show w.heap.size ≤ w6.heap.size from HB6.out.size)
      have HP6 := Lib.hid hp6
      have HS7 := Lib.hid (show w6.heap.size ≤ (w6.alloc (boxB x)).heap.size by simp)
      have HOld := Lib.hid (show ∀ q, (Value.slice a (low x 32).length cap).ownBlock = some q → q < w6.heap.size from fun q hq => (HO6.out.lt q hq).2)
      clear HT6 HB6 HO6 hbox hb7 hp6
      generalize w6.alloc (boxB x) = w7 at *
      generalize w6.heap.size = B6 at *
      go_wp2_with fail
      refine (collect_any x B6 B6 _ hx HBox.out HP6.out (Nat.le_refl _) HT7.out).mono ?_
      rintro e w8 ⟨v2, rfl, hv2, hb8⟩
      have HO8 : Hid (w8.ownsRow w.heap.size 3 1 (.slice a (low x 32).length cap) (low x 32).length ((low x 32).map num)) := Lib.hid (by
        refine ⟨HO7.out.1, ?_⟩
        rcases HO7.out.2 with hn | ⟨g3, cp, cur, hv, hbg, hg, rest⟩
        · exact .inl hn
        · exact .inr ⟨g3, cp, cur, hv, hbg, (hb8.block g3 (HOld.out g3 (by rw [hv]; rfl))).trans hg, rest⟩)
      have HB8 := Lib.hid (HB7.out.trans (hb8.mono HLe.out))
      have HV2 := Lib.hid hv2
      clear hv2 hb8 HO7 HB7 HT7 HBox HS7 HOld
      go_wp2_with fail
      refine (equal_same (low x 32) _ _ _ _ _ (by omega) HV2.out HO8.out).mono ?_
      rintro e w9 ⟨rfl, n9, rfl⟩
      have HO9 : Hid ((w8.drewN n9).ownsRow w.heap.size 3 1 (.slice a (low x 32).length cap) (low x 32).length ((low x 32).map num)) := HO8
      have HB9 : Hid (Below w.heap.size w (w8.drewN n9)) := Lib.hid (below_drewN HB8.out n9)
      clear HO8 HB8 HV2
      generalize w8.drewN n9 = w9 at *
      go_wp2_with fail
      refine (of_any (low x 32) x _ _ _ hx (by omega) (fun j hj => by rw [mem_low]; simp [hj]) HO9.out).mono ?_
      rintro e w' ⟨rfl, rfl⟩
      go_wp2_with fail
      all_goals go_ret
      all_goals exact ⟨rfl, HB9.out⟩
end Go.Proofs.YtgedhcfbjbmniaaDoor
