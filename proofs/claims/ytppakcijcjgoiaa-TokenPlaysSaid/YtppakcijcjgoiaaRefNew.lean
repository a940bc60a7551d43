/-
  The document's New.
-/
import Derived.Test.YtppakcijcjgoiaaRefTake
namespace Go.Proofs.Ytppakcijcjgoiaa
open Go.RowKit Go.Conc
set_option linter.unusedVariables false

set_option maxRecDepth 100000 in
set_option maxHeartbeats 2000000 in
theorem ref_new (n : Nat) (w : World) (hn : n ≤ 1000) :
    Calls Try.prog 15 #[.int .i64 (n : Nat)] w fun e w' => e = .returned (.pointer (some ⟨w.heap.size, 0, none⟩)) ∧
      (∃ vr, Rp w.heap.size w.heap.size n (List.range' 1 n) [] [] vr (.slice none 0 0) (.slice none 0 0) w') ∧ Kp w.heap.size w w' := by
  obtain ⟨i3, hi3, hz30, hz31, hz32⟩ := info_parts Try.info3
  have h0 : Rp w.heap.size w.heap.size n [] [] [] (.slice none 0 0) (.slice none 0 0) (.slice none 0 0) (w.alloc (.cells #[.int .i64 (n : Nat), .slice none 0 0, .slice none 0 0, .slice none 0 0] 46)) :=
    ⟨heap_new _ _, Nat.le_refl _, World.ownsRow_nil _ _ _ _, World.ownsRow_nil _ _ _ _, World.ownsRow_nil _ _ _ _, by simp [Value.ownBlock]⟩
  have hk0 := (Kp.refl w.heap.size w).alloc (.cells #[.int .i64 (n : Nat), .slice none 0 0, .slice none 0 0, .slice none 0 0] 46)
  go_enter Try.func15, Try.ntmps15
  go_wp2_with fail
  generalize w.alloc (.cells #[.int .i64 (n : Nat), .slice none 0 0, .slice none 0 0, .slice none 0 0] 46) = w1 at *
  go_loopw [4] (fun i wr => ∃ (j : Nat) (vr : Value), i = .int .i64 ((j + 1 : Nat) : Int) ∧ j ≤ n ∧ Rp w.heap.size w.heap.size n (List.range' 1 j) [] [] vr (.slice none 0 0) (.slice none 0 0) wr ∧ Kp w.heap.size w wr) (fun i _ => n + 1 - (intOf i).toNat)
  case atStart => exact ⟨0, _, rfl, by omega, h0, hk0⟩
  case round =>
    clear h0 hk0
    obtain ⟨j, vr, rfl, hj, hr, hk⟩ := hrel
    have HR := Lib.hid hr
    have HK := Lib.hid hk
    obtain ⟨a, cap, rfl⟩ := own_len hr.row
    rw [List.length_range'] at hr
    clear hr hk
    by_cases hlt : j < n
    · have c1 : wr.cell? ⟨w.heap.size, 1, none⟩ = some (.slice a (List.range' 1 j).length cap) := cell_of (i := 1) HR.out.blk rfl
      rw [List.length_range'] at c1
      have hrow : wr.ownsRow w.heap.size 3 1 (.slice a j cap) j ((List.range' 1 j).map num) := by have := HR.out.row; rw [List.length_range'] at this; exact this
      have hZ : w.heap.size ≤ (wr.alloc (.cells #[.int .i64 ((j : Int) + 1)] 3)).heap.size := by have := HR.out.size; simp; omega
      have hnw := cell_one_new wr (.int .i64 ((j : Int) + 1)) 3
      have h1c : ∀ u ∈ [Value.int .i64 ((j : Int) + 1)], u.oneCell' = true := by intro u hu; simp at hu; subst hu; rfl
      have hmx : j + 1 ≤ maxLen := by unfold maxLen; omega
      have HR2 := Lib.hid (HR.out.alloc (.cells #[.int .i64 ((j : Int) + 1)] 3))
      have HK2 := Lib.hid (HK.out.alloc (.cells #[.int .i64 ((j : Int) + 1)] 3))
      go_wp2_with (at_builtin; refine wpList_append_lies _ rfl _ _ 43 rfl w.heap.size 3 i3 (.int .i64 0) 1 8 Try.underlying43 hi3 hz30 hz31 hz32 rfl (by decide) _ _ _ rfl (hrow.alloc _) ⟨wr.heap.size, 0, none⟩ 1 1 [.int .i64 ((j : Int) + 1)] rfl rfl hnw h1c (by decide) hmx (by omega) hZ _ rfl ?_)
      intro g cap' wa hown hgrow hat hlt'
      have hch : Ch (Value.slice a j cap).ownBlock.toList (wr.alloc (.cells #[.int .i64 ((j : Int) + 1)] 3)) wa := chOf hgrow
      have hrow2 := hrow.alloc (.cells #[.int .i64 ((j : Int) + 1)] 3)
      have n0 : w.heap.size ∉ (Value.slice a j cap).ownBlock.toList := fun hm => own_ne hrow2 HR2.out.blk (by unfold refB; simp) _ (by simpa using hm) rfl
      have hblk := hch.some HR2.out.blk n0
      have hc1 : wa.cell? ⟨w.heap.size, 1, none⟩ = some (.slice a (List.range' 1 j).length cap) := cell_of (i := 1) hblk rfl
      have hf1 : wa.frozen? ⟨w.heap.size, 1, none⟩ = false := frozen_of hblk
      have hblk4 := heap_set (j := 1) (.slice (some ⟨g, 0, none⟩) (j + 1) cap') hblk
      have hch4 : Ch [w.heap.size] wa (wa.setCell ⟨w.heap.size, 1, none⟩ (.slice (some ⟨g, 0, none⟩) (j + 1) cap')) := (Ch.refl _ _).setCell (by simp) _
      have HR4 : Hid (Rp w.heap.size w.heap.size n (List.range' 1 (j + 1)) [] [] (.slice (some ⟨g, 0, none⟩) (j + 1) cap') (.slice none 0 0) (.slice none 0 0) (wa.setCell ⟨w.heap.size, 1, none⟩ (.slice (some ⟨g, 0, none⟩) (j + 1) cap'))) := by
        refine Lib.hid ⟨hblk4, Nat.le_refl _, ?_, World.ownsRow_nil _ _ _ _, World.ownsRow_nil _ _ _ _, by simp [Value.ownBlock]⟩
        have := own_next hown hch4 (fun x hx => by simpa using own_ne hown hblk (by unfold refB; simp) x hx)
        rw [List.length_range', List.range'_1_concat, List.map_append]
        simpa [num, Int.add_comm] using this
      have HK4 : Hid (Kp w.heap.size w (wa.setCell ⟨w.heap.size, 1, none⟩ (.slice (some ⟨g, 0, none⟩) (j + 1) cap'))) := Lib.hid ((HK2.out.trans (Kp.of_ch hch fun x hx => by
        have hx' : (Value.slice a j cap).ownBlock = some x := by simpa using hx
        obtain ⟨cur, hcur⟩ := own_at hrow2 hx'
        exact ⟨(hrow2.lt x hx').1, fun o ho => by rw [hcur] at ho; cases ho; simp [Plain]⟩)).trans (Kp.of_ch hch4 fun x hx => by
        obtain rfl : x = w.heap.size := by simpa using hx
        exact ⟨Nat.le_refl _, fun o ho => by rw [hblk] at ho; cases ho; simp [Plain, refB]⟩))
      clear hown hgrow hat hch hrow2 n0 hblk hblk4 hch4 HR HK HR2 HK2 hrow c1
      go_wp2_with fail
      go_roundw
      case rel => exact ⟨j + 1, _, by go_num, by omega, HR4.out, HK4.out⟩
      case measure => simp [intOf]; omega
    · obtain rfl : j = n := by omega
      go_wp2_with fail
      all_goals go_ret
      all_goals exact ⟨rfl, ⟨_, HR.out⟩, HK.out⟩
end Go.Proofs.Ytppakcijcjgoiaa
