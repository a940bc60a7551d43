/-
  The document's Take.
-/
import Derived.Test.YtppakcijcjgoiaaRefEnd
import Derived.Deep.DeepCutAuto
namespace Go.Proofs.Ytppakcijcjgoiaa
open Go.RowKit Go.Conc
set_option linter.unusedVariables false

variable {B rb n : Nat} {row : List Nat} {live : List Bool} {ids : List Nat} {vr vl vi : Value} {w w' : World}

theorem own_len {B n : Nat} {e : TypeId} {v : Value} {xs : List Value} {w : World} (h : w.ownsRow B e 1 v n xs) : ∃ a cap, v = .slice a n cap := by
  rcases h.2 with ⟨rfl, rfl⟩ | ⟨g, cap, cur, rfl, _⟩
  · exact ⟨none, 0, rfl⟩
  · exact ⟨_, _, rfl⟩

theorem ref_none (w : World) (h : Rp B rb n [] live ids vr vl vi w) :
    Calls Try.prog 16 #[.pointer (some ⟨rb, 0, none⟩)] w fun e w' => e = .returned (.tuple #[.int .i64 0, .int .i64 6]) ∧ w = w' := by
  obtain ⟨a, cap, rfl⟩ := own_len h.row
  have c1 : w.cell? ⟨rb, 1, none⟩ = some (.slice a 0 cap) := cell_of (i := 1) h.blk rfl
  clear h
  go_enter Try.func16, Try.ntmps16
  go_wp2
  all_goals go_ret2
  all_goals exact ⟨rfl, rfl⟩

/-- what the loads read -/
def TS (rb gr d : Nat) (vr vl vi : Value) (W : World) : Prop :=
  W.cell? ⟨rb, 1, none⟩ = some vr ∧ W.cell? ⟨rb, 2, none⟩ = some vl ∧ W.cell? ⟨rb, 3, none⟩ = some vi ∧ W.cell? ⟨gr, 0, none⟩ = some (.int .i64 (d : Nat))

/-- the ids have been appended to -/
structure T1 (B rb n d : Nat) (row : List Nat) (live : List Bool) (ids : List Nat) (gr cr : Nat) (vl vi v1 : Value) (W : World) : Prop where
  blk : W.heap[rb]? = some (refB n (.slice (some ⟨gr, 0, none⟩) (row.length + 1) cr) vl vi)
  hB : B ≤ rb
  row : W.ownsRow B 3 1 (.slice (some ⟨gr, 0, none⟩) (row.length + 1) cr) (row.length + 1) ((d :: row).map num)
  live : W.ownsRow B 4 1 vl live.length (live.map Value.bool)
  ids : W.ownsRow B 3 1 v1 (ids.length + 1) ((ids ++ [d]).map num)
  apart : v1.ownBlock ≠ some gr
theorem T1.ts {B rb n d gr cr : Nat} {row : List Nat} {live : List Bool} {ids : List Nat} {vl vi v1 : Value} {W : World} (h : T1 B rb n d row live ids gr cr vl vi v1 W) :
    TS rb gr d (.slice (some ⟨gr, 0, none⟩) (row.length + 1) cr) vl vi W :=
  ⟨cell_of (i := 1) h.blk rfl, cell_of (i := 2) h.blk rfl, cell_of (i := 3) h.blk rfl, by rw [h.row.cellAt 0 (by omega)]; rfl⟩
theorem Rp.ts {B rb n d gr cr : Nat} {row : List Nat} {live : List Bool} {ids : List Nat} {vl vi : Value} {W : World} (h : Rp B rb n (d :: row) live ids (.slice (some ⟨gr, 0, none⟩) (row.length + 1) cr) vl vi W) :
    TS rb gr d (.slice (some ⟨gr, 0, none⟩) (row.length + 1) cr) vl vi W :=
  ⟨cell_of (i := 1) h.blk rfl, cell_of (i := 2) h.blk rfl, cell_of (i := 3) h.blk rfl, by have := h.row.cellAt 0 (by simp); rw [this]; rfl⟩
theorem Rp.alloc {B rb n : Nat} {row : List Nat} {live : List Bool} {ids : List Nat} {vr vl vi : Value} {W : World} (h : Rp B rb n row live ids vr vl vi W) (o : Obj) : Rp B rb n row live ids vr vl vi (W.alloc o) :=
  h.next ((Ch.refl [] _).alloc o) (by simp) (by simp) (by simp) (by simp)
theorem Kp.alloc {B : Nat} {w W : World} (h : Kp B w W) (o : Obj) : Kp B w (W.alloc o) := h.trans (Kp.of_ch ((Ch.refl [] _).alloc o) (by simp))
theorem T1.alloc {B rb n d gr cr : Nat} {row : List Nat} {live : List Bool} {ids : List Nat} {vl vi v1 : Value} {W : World} (h : T1 B rb n d row live ids gr cr vl vi v1 W) (o : Obj) : T1 B rb n d row live ids gr cr vl vi v1 (W.alloc o) :=
  have hc := (Ch.refl [] W).alloc o
  ⟨hc.some h.blk (by simp), h.hB, own_next h.row hc (by simp), own_next h.live hc (by simp), own_next h.ids hc (by simp), h.apart⟩
theorem T1.of {B rb n d gr cr g cap : Nat} {row : List Nat} {live : List Bool} {ids : List Nat} {vl vi : Value} {w W W' : World}
    (h : Rp B rb n (d :: row) live ids (.slice (some ⟨gr, 0, none⟩) (row.length + 1) cr) vl vi W) (hK : Kp B w W)
    (hown : W'.ownsRow B 3 1 (.slice (some ⟨g, 0, none⟩) (ids.length + 1) cap) (ids.length + 1) (ids.map num ++ [.int .i64 (d : Nat)]))
    (hgrow : W.grownBy W' vi.ownBlock) (hat : vi.ownBlock = some g ∨ g = W.heap.size) :
    T1 B rb n d row live ids gr cr vl vi (.slice (some ⟨g, 0, none⟩) (ids.length + 1) cap) W' ∧ Kp B w W' := by
  have hch : Ch vi.ownBlock.toList W W' := chOf hgrow
  have hg : ∀ x ∈ vi.ownBlock.toList, vi.ownBlock = some x := fun x hx => by simpa using hx
  have n0 : rb ∉ vi.ownBlock.toList := fun hm => own_ne h.ids h.blk (by unfold refB; simp) rb (hg _ hm) rfl
  have n1 : ∀ x, vi.ownBlock = some x → x ≠ gr := fun x hx e => h.apart gr rfl (by rw [← e]; exact hx)
  have n2 : ∀ x, vl.ownBlock = some x → x ∉ vi.ownBlock.toList := fun x hx hm => by
    obtain ⟨c1, h1⟩ := own_at h.live hx
    exact own_ne h.ids h1 (by simp) x (hg _ hm) rfl
  refine ⟨⟨hch.some h.blk n0, h.hB, own_next h.row hch (fun x hx hm => n1 x (hg _ hm) (ob hx).symm), own_next h.live hch n2, by simpa [num] using hown, ?_⟩, hK.trans (Kp.of_ch hch fun x hx => ?_)⟩
  · intro e
    obtain rfl := ob e
    rcases hat with hat | hat
    · exact n1 _ hat rfl
    · have := (h.row.lt g rfl).2
      omega
  · obtain ⟨c1, h1⟩ := own_at h.ids (hg _ hx)
    exact ⟨(h.ids.lt x (hg _ hx)).1, fun o ho => by rw [h1] at ho; cases ho; simp [Plain]⟩
/-- both have been appended to -/
theorem T2.of {B rb n d gr cr g cap : Nat} {row : List Nat} {live : List Bool} {ids : List Nat} {vl vi v1 : Value} {w W W' : World}
    (h : T1 B rb n d row live ids gr cr vl vi v1 W) (hK : Kp B w W)
    (hown : W'.ownsRow B 4 1 (.slice (some ⟨g, 0, none⟩) (live.length + 1) cap) (live.length + 1) (live.map Value.bool ++ [.bool true]))
    (hgrow : W.grownBy W' vl.ownBlock) :
    (W'.heap[rb]? = some (refB n (.slice (some ⟨gr, 0, none⟩) (row.length + 1) cr) vl vi) ∧
      TS rb gr d (.slice (some ⟨gr, 0, none⟩) (row.length + 1) cr) vl vi W' ∧
      Rp B rb n (d :: row) (live ++ [true]) (ids ++ [d]) (.slice (some ⟨gr, 0, none⟩) (row.length + 1) cr) (.slice (some ⟨g, 0, none⟩) (live.length + 1) cap) v1
        ((W'.setCell ⟨rb, 3, none⟩ v1).setCell ⟨rb, 2, none⟩ (.slice (some ⟨g, 0, none⟩) (live.length + 1) cap))) ∧
      Kp B w ((W'.setCell ⟨rb, 3, none⟩ v1).setCell ⟨rb, 2, none⟩ (.slice (some ⟨g, 0, none⟩) (live.length + 1) cap)) := by
  have hch : Ch vl.ownBlock.toList W W' := chOf hgrow
  have hg : ∀ x ∈ vl.ownBlock.toList, vl.ownBlock = some x := fun x hx => by simpa using hx
  have n0 : rb ∉ vl.ownBlock.toList := fun hm => own_ne h.live h.blk (by unfold refB; simp) rb (hg _ hm) rfl
  have n3 : ∀ (v : Value) m xs, W.ownsRow B 3 1 v m xs → ∀ x, v.ownBlock = some x → x ∉ vl.ownBlock.toList := fun v m xs hv x hx hm => by
    obtain ⟨c1, h1⟩ := own_at hv hx
    exact own_ne h.live h1 (by simp) x (hg _ hm) rfl
  have hblk := hch.some h.blk n0
  have hrow := own_next h.row hch (n3 _ _ _ h.row)
  have hids := own_next h.ids hch (n3 _ _ _ h.ids)
  have hc2 : Ch [rb] W' ((W'.setCell ⟨rb, 3, none⟩ v1).setCell ⟨rb, 2, none⟩ (.slice (some ⟨g, 0, none⟩) (live.length + 1) cap)) := ((Ch.refl _ _).setCell (by simp) _).setCell (by simp) _
  have hblk2 := heap_set (j := 2) (.slice (some ⟨g, 0, none⟩) (live.length + 1) cap) (heap_set (j := 3) v1 hblk)
  have hE : Rp B rb n (d :: row) (live ++ [true]) (ids ++ [d]) (.slice (some ⟨gr, 0, none⟩) (row.length + 1) cr) (.slice (some ⟨g, 0, none⟩) (live.length + 1) cap) v1
        ((W'.setCell ⟨rb, 3, none⟩ v1).setCell ⟨rb, 2, none⟩ (.slice (some ⟨g, 0, none⟩) (live.length + 1) cap)) := by
    refine ⟨hblk2, h.hB, own_next hrow hc2 (fun x hx => by simpa using own_ne hrow hblk (by unfold refB; simp) x hx), ?_, ?_, fun x hx e => h.apart (by rw [e, ob hx])⟩
    · have := own_next hown hc2 (fun x hx => by simpa using own_ne hown hblk (by unfold refB; simp) x hx)
      simpa using this
    · have := own_next hids hc2 (fun x hx => by simpa using own_ne hids hblk (by unfold refB; simp) x hx)
      simpa using this
  refine ⟨⟨hblk, ⟨cell_of (i := 1) hblk rfl, cell_of (i := 2) hblk rfl, cell_of (i := 3) hblk rfl, by rw [hrow.cellAt 0 (by omega)]; rfl⟩, hE⟩, (hK.trans (Kp.of_ch hch fun x hx => ?_)).trans (Kp.of_ch hc2 fun x hx => ?_)⟩
  · obtain ⟨c1, h1⟩ := own_at h.live (hg _ hx)
    exact ⟨(h.live.lt x (hg _ hx)).1, fun o ho => by rw [h1] at ho; cases ho; simp [Plain]⟩
  · obtain rfl : x = rb := by simpa using hx
    exact ⟨h.hB, fun o ho => by rw [hblk] at ho; cases ho; simp [Plain, refB]⟩

set_option maxRecDepth 100000 in
set_option maxHeartbeats 2000000 in
theorem ref_take (d : Nat) (w : World) (h : Rp B rb n (d :: row) live ids vr vl vi w) (hr : row.length ≤ 1000) (hl : live.length ≤ 1000) (hi : ids.length ≤ 1000) :
    Calls Try.prog 16 #[.pointer (some ⟨rb, 0, none⟩)] w fun e w' => e = .returned (.tuple #[.int .i64 (ids.length : Nat), .int .i64 0]) ∧
      (∃ vr' vl' vi', Rp B rb n row (live ++ [true]) (ids ++ [d]) vr' vl' vi' w') ∧ Kp B w w' := by
  obtain ⟨i3, hi3, hz30, hz31, hz32⟩ := info_parts Try.info3
  obtain ⟨i4, hi4, hz40, hz41, hz42⟩ := info_parts Try.info4
  obtain ⟨gr, cr, rfl, hgr⟩ := own_slice h.row (by simp)
  simp only [List.length_cons] at h
  have c1 : w.cell? ⟨rb, 1, none⟩ = some (.slice (some ⟨gr, 0, none⟩) (row.length + 1) cr) := cell_of (i := 1) h.blk rfl
  have hR : Hid (Rp B rb n (d :: row) live ids (.slice (some ⟨gr, 0, none⟩) (row.length + 1) cr) vl vi w.drew) :=
    Lib.hid (h.next ((Ch.refl [] _).drewN 1) (by simp) (by simp) (by simp) (by simp))
  have hK1 : Hid (Kp B w w.drew) := Lib.hid (Kp.of_ch ((Ch.refl [] _).drewN 1) (by simp))
  have hBw : B ≤ w.heap.size := by have := h.size; have := h.hB; omega
  clear h
  go_enter Try.func16, Try.ntmps16
  go_upto_region 3 with fail
  go_cut [] (fun wx => ∃ vl' vi', Rp B rb n (d :: row) (live ++ [true]) (ids ++ [d]) (.slice (some ⟨gr, 0, none⟩) (row.length + 1) cr) vl' vi' wx ∧ Kp B w wx)
  case first =>
    refine anyM_start (TS rb gr d (.slice (some ⟨gr, 0, none⟩) (row.length + 1) cr) vl vi) 22 26 (by kernel_rfl) (by kernel_rfl) ?_
    have HS := Lib.hid hR.out.ts
    generalize w.drew = w1 at hR hK1 HS ⊢
    refine anyM_take (i := 0) (v := ?v0) rfl (by kernel_rfl) (by kernel_rfl) (by kernel_rfl) (fun _ _ _ h => h) (by kernel_rfl) (.inr HS.out) ⟨by rfl, ?y0⟩ ?r0
    case y0 =>
      intro W
      go_simp
      try with_reducible rfl
    simp only [Act.put, List.setIfInBounds_toArray, List.set_cons_zero, List.set_cons_succ, List.getElem_toArray, List.getElem_cons_zero]
    refine anyM_take (i := 1) (v := ?v1) rfl (by kernel_rfl) (by kernel_rfl) (by kernel_rfl) (fun _ _ _ h => h) (by kernel_rfl) (.inr HS.out) ⟨by rfl, ?y1⟩ ?r1
    case y1 =>
      intro W
      go_simp
      try with_reducible rfl
    simp only [Act.put, List.setIfInBounds_toArray, List.set_cons_zero, List.set_cons_succ, List.getElem_toArray, List.getElem_cons_succ, List.getElem_cons_zero]
    refine anyM_take (i := 2) (v := ?v2) rfl (by kernel_rfl) (by kernel_rfl) (by kernel_rfl) (fun _ _ _ h => h) (by kernel_rfl) (.inr HS.out) ⟨by rfl, ?y2⟩ ?r2
    case y2 =>
      intro W
      go_simp
      try with_reducible rfl
    simp only [Act.put, List.setIfInBounds_toArray, List.set_cons_zero, List.set_cons_succ, List.getElem_toArray, List.getElem_cons_succ, List.getElem_cons_zero]
    refine anyM_take (i := 3) (v := ?v3) rfl (by kernel_rfl) (by kernel_rfl) (by kernel_rfl) (fun _ _ _ h => h) (by kernel_rfl) (.inr HS.out) ⟨by rfl, ?y3⟩ ?r3
    case y3 =>
      intro W
      go_simp
      try with_reducible rfl
    simp only [Act.put, List.setIfInBounds_toArray, List.set_cons_zero, List.set_cons_succ, List.getElem_toArray, List.getElem_cons_succ, List.getElem_cons_zero]
    refine anyM_take (i := 4) (v := ?v4) rfl (by kernel_rfl) (by kernel_rfl) (by kernel_rfl) (fun _ _ _ h => h) (by kernel_rfl) (.inr HS.out) ⟨by rfl, ?y4⟩ ?r4
    case y4 =>
      intro W
      go_simp
      try with_reducible rfl
    simp only [Act.put, List.setIfInBounds_toArray, List.set_cons_zero, List.set_cons_succ, List.getElem_toArray, List.getElem_cons_succ, List.getElem_cons_zero]
    refine anyM_load (i := 5) (v := ?v5) rfl (by kernel_rfl) (by kernel_rfl) (by kernel_rfl) (fun _ _ _ h => h) (by kernel_rfl) (by kernel_rfl) (by kernel_rfl) HS.out ⟨by rfl, ?y5⟩ ?r5
    case y5 =>
      intro W hW
      try dsimp only at hW
      obtain ⟨hW1, hW2, hW3, hW4⟩ := hW
      go_simp
      try with_reducible rfl
    simp only [Act.put, List.setIfInBounds_toArray, List.set_cons_zero, List.set_cons_succ, List.getElem_toArray, List.getElem_cons_succ, List.getElem_cons_zero]
    refine anyM_take (i := 6) (v := ?v6) rfl (by kernel_rfl) (by kernel_rfl) (by kernel_rfl) (fun _ _ _ h => h) (by kernel_rfl) (.inr HS.out) ⟨by rfl, ?y6⟩ ?r6
    case y6 =>
      intro W
      go_simp
      try with_reducible rfl
    simp only [Act.put, List.setIfInBounds_toArray, List.set_cons_zero, List.set_cons_succ, List.getElem_toArray, List.getElem_cons_succ, List.getElem_cons_zero]
    refine anyM_take (i := 7) (v := ?v7) rfl (by kernel_rfl) (by kernel_rfl) (by kernel_rfl) (fun _ _ _ h => h) (by kernel_rfl) (.inr HS.out) ⟨by rfl, ?y7⟩ ?r7
    case y7 =>
      intro W
      go_simp
      try with_reducible rfl
    simp only [Act.put, List.setIfInBounds_toArray, List.set_cons_zero, List.set_cons_succ, List.getElem_toArray, List.getElem_cons_succ, List.getElem_cons_zero]
    refine anyM_take (i := 8) (v := ?v8) rfl (by kernel_rfl) (by kernel_rfl) (by kernel_rfl) (fun _ _ _ h => h) (by kernel_rfl) (.inr HS.out) ⟨by rfl, ?y8⟩ ?r8
    case y8 =>
      intro W
      go_simp
      try with_reducible rfl
    simp only [Act.put, List.setIfInBounds_toArray, List.set_cons_zero, List.set_cons_succ, List.getElem_toArray, List.getElem_cons_succ, List.getElem_cons_zero]
    refine anyM_load (i := 9) (v := ?v9) rfl (by kernel_rfl) (by kernel_rfl) (by kernel_rfl) (fun _ _ _ h => h) (by kernel_rfl) (by kernel_rfl) (by kernel_rfl) HS.out ⟨by rfl, ?y9⟩ ?r9
    case y9 =>
      intro W hW
      try dsimp only at hW
      obtain ⟨hW1, hW2, hW3, hW4⟩ := hW
      go_simp
      try with_reducible rfl
    simp only [Act.put, List.setIfInBounds_toArray, List.set_cons_zero, List.set_cons_succ, List.getElem_toArray, List.getElem_cons_succ, List.getElem_cons_zero]
    refine anyM_take (i := 10) (v := ?v10) rfl (by kernel_rfl) (by kernel_rfl) (by kernel_rfl) (fun _ _ _ h => h) (by kernel_rfl) (.inr HS.out) ⟨by rfl, ?y10⟩ ?r10
    case y10 =>
      intro W
      go_simp
      try with_reducible rfl
    simp only [Act.put, List.setIfInBounds_toArray, List.set_cons_zero, List.set_cons_succ, List.getElem_toArray, List.getElem_cons_succ, List.getElem_cons_zero]
    refine anyM_load (i := 11) (v := ?v11) rfl (by kernel_rfl) (by kernel_rfl) (by kernel_rfl) (fun _ _ _ h => h) (by kernel_rfl) (by kernel_rfl) (by kernel_rfl) HS.out ⟨by rfl, ?y11⟩ ?r11
    case y11 =>
      intro W hW
      try dsimp only at hW
      obtain ⟨hW1, hW2, hW3, hW4⟩ := hW
      go_simp
      try with_reducible rfl
    simp only [Act.put, List.setIfInBounds_toArray, List.set_cons_zero, List.set_cons_succ, List.getElem_toArray, List.getElem_cons_succ, List.getElem_cons_zero]
    refine anyM_take (i := 14) (v := ?v14) rfl (by kernel_rfl) (by kernel_rfl) (by kernel_rfl) (fun _ _ _ h => h) (by kernel_rfl) (.inr HS.out) ⟨by rfl, ?y14⟩ ?r14
    case y14 =>
      intro W
      go_simp
      try with_reducible rfl
    simp only [Act.put, List.setIfInBounds_toArray, List.set_cons_zero, List.set_cons_succ, List.getElem_toArray, List.getElem_cons_succ, List.getElem_cons_zero]
    refine anyM_take (i := 15) (v := ?v15) rfl (by kernel_rfl) (by kernel_rfl) (by kernel_rfl) (fun _ _ _ h => h) (by kernel_rfl) (.inr HS.out) ⟨by rfl, ?y15⟩ ?r15
    case y15 =>
      intro W
      go_simp
      try with_reducible rfl
    simp only [Act.put, List.setIfInBounds_toArray, List.set_cons_zero, List.set_cons_succ, List.getElem_toArray, List.getElem_cons_succ, List.getElem_cons_zero]
    refine anyM_take (i := 16) (v := ?v16) rfl (by kernel_rfl) (by kernel_rfl) (by kernel_rfl) (fun _ _ _ h => h) (by kernel_rfl) (.inr HS.out) ⟨by rfl, ?y16⟩ ?r16
    case y16 =>
      intro W
      go_simp
      try with_reducible rfl
    simp only [Act.put, List.setIfInBounds_toArray, List.set_cons_zero, List.set_cons_succ, List.getElem_toArray, List.getElem_cons_succ, List.getElem_cons_zero]
    refine anyM_load (i := 17) (v := ?v17) rfl (by kernel_rfl) (by kernel_rfl) (by kernel_rfl) (fun _ _ _ h => h) (by kernel_rfl) (by kernel_rfl) (by kernel_rfl) HS.out ⟨by rfl, ?y17⟩ ?r17
    case y17 =>
      intro W hW
      try dsimp only at hW
      obtain ⟨hW1, hW2, hW3, hW4⟩ := hW
      go_simp
      try with_reducible rfl
    simp only [Act.put, List.setIfInBounds_toArray, List.set_cons_zero, List.set_cons_succ, List.getElem_toArray, List.getElem_cons_succ, List.getElem_cons_zero]
    refine anyM_two (x := 12) (y := 18) (by kernel_rfl) rfl rfl (fun K hK => ?_) (fun K hK => ?_)
    · go_simp
      have hnew1 : (w1.alloc (.cells #[.int .i64 (d : Nat)] 3)).heap[w1.heap.size]? = some (.cells #[.int .i64 (d : Nat)] 3) := heap_new _ _
      have hR2 := hR.out.alloc (.cells #[.int .i64 (d : Nat)] 3)
      have hK2 := hK1.out.alloc (.cells #[.int .i64 (d : Nat)] 3)
      refine hK _ _ (.inr hR2.ts) ?_
      clear hK K
      generalize w1.alloc (.cells #[.int .i64 (d : Nat)] 3) = w2 at hnew1 hR2 hK2 ⊢
      generalize w1.heap.size = x1 at hnew1 ⊢
      refine anyM_two (x := 13) (y := 18) (by kernel_rfl) rfl rfl (fun K hK => ?_) (fun K hK => ?_)
      · refine step_append_lies w2 rfl (.tmp 15) (.tmp 22) 43 rfl B 3 i3 (.int .i64 0) 1 8 Try.underlying43 hi3 hz30 hz31 hz32 rfl (by decide) vi ids.length (ids.map num) rfl hR2.ids ⟨x1, 0, none⟩ 1 1 [.int .i64 (d : Nat)] rfl rfl ?_ (by simp [Value.oneCell']) (by decide) (by unfold maxLen; omega) (by omega) (by have := hR2.size; have := hR2.hB; omega) w2.heap.size rfl ?_
        · exact World.news_of_block hnew1
        intro g1 cap1 wa hown1 hgrow1 hat1 hlt1
        obtain ⟨hT, hKT⟩ := T1.of hR2 hK2 hown1 hgrow1 hat1
        refine hK _ _ (.inr hT.ts) ?_
        clear hK K
        simp only [Act.put, List.setIfInBounds_toArray, List.set_cons_zero, List.set_cons_succ, List.getElem_toArray, List.getElem_cons_succ, List.getElem_cons_zero]
        refine anyM_one (x := 18) (by kernel_rfl) rfl fun K hK => ?_
        go_simp
        have hnew2 : (wa.alloc (.cells #[.bool true] 4)).heap[wa.heap.size]? = some (.cells #[.bool true] 4) := heap_new _ _
        have hT2 := hT.alloc (.cells #[.bool true] 4)
        have hKT2 := hKT.alloc (.cells #[.bool true] 4)
        refine hK _ _ (.inr hT2.ts) ?_
        clear hK K
        generalize wa.alloc (.cells #[.bool true] 4) = wb at hnew2 hT2 hKT2 ⊢
        generalize wa.heap.size = x2 at hnew2 ⊢
        refine anyM_one (x := 19) (by kernel_rfl) rfl fun K hK => ?_
        refine step_append_lies wb rfl (.tmp 27) (.tmp 28) 44 rfl B 4 i4 (.bool false) 1 1 Try.underlying44 hi4 hz40 hz41 hz42 rfl (by decide) vl live.length (live.map Value.bool) rfl hT2.live ⟨x2, 0, none⟩ 1 1 [.bool true] rfl rfl ?_ (by simp [Value.oneCell']) (by decide) (by unfold maxLen; omega) (by omega) (by have := lt_of_some hT2.blk; have := hT2.hB; omega) wb.heap.size rfl ?_
        · exact World.news_of_block hnew2
        intro g2 cap2 wz hown2 hgrow2 hat2 hlt2
        obtain ⟨⟨hblk, hts, hE⟩, hKE⟩ := T2.of hT2 hKT2 hown2 hgrow2
        refine hK _ _ (.inr hts) ?_
        clear hK K
        simp only [Act.put, List.setIfInBounds_toArray, List.set_cons_zero, List.set_cons_succ, List.getElem_toArray, List.getElem_cons_succ, List.getElem_cons_zero]
        refine anyM_take (i := 20) (v := ?va20) rfl (by kernel_rfl) (by kernel_rfl) (by kernel_rfl) (fun _ _ _ h => h) (by kernel_rfl) (.inr hts) ⟨by rfl, ?ya20⟩ ?ra20
        case ya20 =>
          intro W
          go_simp
          try with_reducible rfl
        simp only [Act.put, List.setIfInBounds_toArray, List.set_cons_zero, List.set_cons_succ, List.getElem_toArray, List.getElem_cons_succ, List.getElem_cons_zero]
        refine anyM_take (i := 21) (v := ?va21) rfl (by kernel_rfl) (by kernel_rfl) (by kernel_rfl) (fun _ _ _ h => h) (by kernel_rfl) (.inr hts) ⟨by rfl, ?ya21⟩ ?ra21
        case ya21 =>
          intro W
          go_simp
          try with_reducible rfl
        simp only [Act.put, List.setIfInBounds_toArray, List.set_cons_zero, List.set_cons_succ, List.getElem_toArray, List.getElem_cons_succ, List.getElem_cons_zero]
        have hf3 : wz.frozen? ⟨rb, 3, none⟩ = false := frozen_of hblk
        have hc3 : wz.cell? ⟨rb, 3, none⟩ = some vi := cell_of (i := 3) hblk rfl
        have hf2 : (wz.setCell ⟨rb, 3, none⟩ (.slice (some ⟨g1, 0, none⟩) (ids.length + 1) cap1)).frozen? ⟨rb, 2, none⟩ = false := frozen_of (heap_set (j := 3) _ hblk)
        have hc2 : (wz.setCell ⟨rb, 3, none⟩ (.slice (some ⟨g1, 0, none⟩) (ids.length + 1) cap1)).cell? ⟨rb, 2, none⟩ = some vl := cell_of (i := 2) (heap_set (j := 3) _ hblk) rfl
        refine anyM_one (x := 22) (by kernel_rfl) rfl fun K hK => ?_
        go_simp
        refine hK _ _ (.inl (by kernel_rfl)) ?_
        clear hK K
        refine anyM_take (i := 23) (v := ?va23) rfl (by kernel_rfl) (by kernel_rfl) (by kernel_rfl) (fun _ _ _ h => h) (by kernel_rfl) (.inl (by kernel_rfl)) ⟨by rfl, ?ya23⟩ ?ra23
        case ya23 =>
          intro W
          go_simp
          try with_reducible rfl
        simp only [Act.put, List.setIfInBounds_toArray, List.set_cons_zero, List.set_cons_succ, List.getElem_toArray, List.getElem_cons_succ, List.getElem_cons_zero]
        refine anyM_take (i := 24) (v := ?va24) rfl (by kernel_rfl) (by kernel_rfl) (by kernel_rfl) (fun _ _ _ h => h) (by kernel_rfl) (.inl (by kernel_rfl)) ⟨by rfl, ?ya24⟩ ?ra24
        case ya24 =>
          intro W
          go_simp
          try with_reducible rfl
        simp only [Act.put, List.setIfInBounds_toArray, List.set_cons_zero, List.set_cons_succ, List.getElem_toArray, List.getElem_cons_succ, List.getElem_cons_zero]
        refine anyM_one (x := 25) (by kernel_rfl) rfl fun K hK => ?_
        go_simp
        refine hK _ _ (.inl (by kernel_rfl)) (anyM_done (by kernel_rfl) ?_ _)
        clear hK K
        go_wp2_with fail
        go_meet
        exact ⟨_, _, hE, hKE⟩
      · go_simp
        have hnew2 : (w2.alloc (.cells #[.bool true] 4)).heap[w2.heap.size]? = some (.cells #[.bool true] 4) := heap_new _ _
        have hnew1 := ((Ch.refl [] w2).alloc (.cells #[.bool true] 4)).some hnew1 (by simp)
        have hR3 := hR2.alloc (.cells #[.bool true] 4)
        have hK3 := hK2.alloc (.cells #[.bool true] 4)
        refine hK _ _ (.inr hR3.ts) ?_
        clear hK K
        generalize w2.alloc (.cells #[.bool true] 4) = w3 at hnew1 hnew2 hR3 hK3 ⊢
        generalize w2.heap.size = x2 at hnew2 ⊢
        refine anyM_one (x := 13) (by kernel_rfl) rfl fun K hK => ?_
        refine step_append_lies w3 rfl (.tmp 15) (.tmp 22) 43 rfl B 3 i3 (.int .i64 0) 1 8 Try.underlying43 hi3 hz30 hz31 hz32 rfl (by decide) vi ids.length (ids.map num) rfl hR3.ids ⟨x1, 0, none⟩ 1 1 [.int .i64 (d : Nat)] rfl rfl ?_ (by simp [Value.oneCell']) (by decide) (by unfold maxLen; omega) (by omega) (by have := hR3.size; have := hR3.hB; omega) w3.heap.size rfl ?_
        · exact World.news_of_block hnew1
        intro g1 cap1 wa hown1 hgrow1 hat1 hlt1
        obtain ⟨hT, hKT⟩ := T1.of hR3 hK3 hown1 hgrow1 hat1
        have hnew2 := (chOf hgrow1).some hnew2 (fun hm => own_ne hR3.ids hnew2 (by simp) _ (by simpa using hm) rfl)
        refine hK _ _ (.inr hT.ts) ?_
        clear hK K
        simp only [Act.put, List.setIfInBounds_toArray, List.set_cons_zero, List.set_cons_succ, List.getElem_toArray, List.getElem_cons_succ, List.getElem_cons_zero]
        refine anyM_one (x := 19) (by kernel_rfl) rfl fun K hK => ?_
        refine step_append_lies wa rfl (.tmp 27) (.tmp 28) 44 rfl B 4 i4 (.bool false) 1 1 Try.underlying44 hi4 hz40 hz41 hz42 rfl (by decide) vl live.length (live.map Value.bool) rfl hT.live ⟨x2, 0, none⟩ 1 1 [.bool true] rfl rfl ?_ (by simp [Value.oneCell']) (by decide) (by unfold maxLen; omega) (by omega) (by have := lt_of_some hT.blk; have := hT.hB; omega) wa.heap.size rfl ?_
        · exact World.news_of_block hnew2
        intro g2 cap2 wz hown2 hgrow2 hat2 hlt2
        obtain ⟨⟨hblk, hts, hE⟩, hKE⟩ := T2.of hT hKT hown2 hgrow2
        refine hK _ _ (.inr hts) ?_
        clear hK K
        simp only [Act.put, List.setIfInBounds_toArray, List.set_cons_zero, List.set_cons_succ, List.getElem_toArray, List.getElem_cons_succ, List.getElem_cons_zero]
        refine anyM_take (i := 20) (v := ?vb20) rfl (by kernel_rfl) (by kernel_rfl) (by kernel_rfl) (fun _ _ _ h => h) (by kernel_rfl) (.inr hts) ⟨by rfl, ?yb20⟩ ?rb20
        case yb20 =>
          intro W
          go_simp
          try with_reducible rfl
        simp only [Act.put, List.setIfInBounds_toArray, List.set_cons_zero, List.set_cons_succ, List.getElem_toArray, List.getElem_cons_succ, List.getElem_cons_zero]
        refine anyM_take (i := 21) (v := ?vb21) rfl (by kernel_rfl) (by kernel_rfl) (by kernel_rfl) (fun _ _ _ h => h) (by kernel_rfl) (.inr hts) ⟨by rfl, ?yb21⟩ ?rb21
        case yb21 =>
          intro W
          go_simp
          try with_reducible rfl
        simp only [Act.put, List.setIfInBounds_toArray, List.set_cons_zero, List.set_cons_succ, List.getElem_toArray, List.getElem_cons_succ, List.getElem_cons_zero]
        have hf3 : wz.frozen? ⟨rb, 3, none⟩ = false := frozen_of hblk
        have hc3 : wz.cell? ⟨rb, 3, none⟩ = some vi := cell_of (i := 3) hblk rfl
        have hf2 : (wz.setCell ⟨rb, 3, none⟩ (.slice (some ⟨g1, 0, none⟩) (ids.length + 1) cap1)).frozen? ⟨rb, 2, none⟩ = false := frozen_of (heap_set (j := 3) _ hblk)
        have hc2 : (wz.setCell ⟨rb, 3, none⟩ (.slice (some ⟨g1, 0, none⟩) (ids.length + 1) cap1)).cell? ⟨rb, 2, none⟩ = some vl := cell_of (i := 2) (heap_set (j := 3) _ hblk) rfl
        refine anyM_one (x := 22) (by kernel_rfl) rfl fun K hK => ?_
        go_simp
        refine hK _ _ (.inl (by kernel_rfl)) ?_
        clear hK K
        refine anyM_take (i := 23) (v := ?vb23) rfl (by kernel_rfl) (by kernel_rfl) (by kernel_rfl) (fun _ _ _ h => h) (by kernel_rfl) (.inl (by kernel_rfl)) ⟨by rfl, ?yb23⟩ ?rb23
        case yb23 =>
          intro W
          go_simp
          try with_reducible rfl
        simp only [Act.put, List.setIfInBounds_toArray, List.set_cons_zero, List.set_cons_succ, List.getElem_toArray, List.getElem_cons_succ, List.getElem_cons_zero]
        refine anyM_take (i := 24) (v := ?vb24) rfl (by kernel_rfl) (by kernel_rfl) (by kernel_rfl) (fun _ _ _ h => h) (by kernel_rfl) (.inl (by kernel_rfl)) ⟨by rfl, ?yb24⟩ ?rb24
        case yb24 =>
          intro W
          go_simp
          try with_reducible rfl
        simp only [Act.put, List.setIfInBounds_toArray, List.set_cons_zero, List.set_cons_succ, List.getElem_toArray, List.getElem_cons_succ, List.getElem_cons_zero]
        refine anyM_one (x := 25) (by kernel_rfl) rfl fun K hK => ?_
        go_simp
        refine hK _ _ (.inl (by kernel_rfl)) (anyM_done (by kernel_rfl) ?_ _)
        clear hK K
        go_wp2_with fail
        go_meet
        exact ⟨_, _, hE, hKE⟩
    · go_simp
      have hnew2 : (w1.alloc (.cells #[.bool true] 4)).heap[w1.heap.size]? = some (.cells #[.bool true] 4) := heap_new _ _
      have hR2 := hR.out.alloc (.cells #[.bool true] 4)
      have hK2 := hK1.out.alloc (.cells #[.bool true] 4)
      refine hK _ _ (.inr hR2.ts) ?_
      clear hK K
      generalize w1.alloc (.cells #[.bool true] 4) = w2 at hnew2 hR2 hK2 ⊢
      generalize w1.heap.size = x2 at hnew2 ⊢
      refine anyM_one (x := 12) (by kernel_rfl) rfl fun K hK => ?_
      go_simp
      have hnew1 : (w2.alloc (.cells #[.int .i64 (d : Nat)] 3)).heap[w2.heap.size]? = some (.cells #[.int .i64 (d : Nat)] 3) := heap_new _ _
      have hnew2 := ((Ch.refl [] w2).alloc (.cells #[.int .i64 (d : Nat)] 3)).some hnew2 (by simp)
      have hR3 := hR2.alloc (.cells #[.int .i64 (d : Nat)] 3)
      have hK3 := hK2.alloc (.cells #[.int .i64 (d : Nat)] 3)
      refine hK _ _ (.inr hR3.ts) ?_
      clear hK K
      generalize w2.alloc (.cells #[.int .i64 (d : Nat)] 3) = w3 at hnew1 hnew2 hR3 hK3 ⊢
      generalize w2.heap.size = x1 at hnew1 ⊢
      refine anyM_one (x := 13) (by kernel_rfl) rfl fun K hK => ?_
      refine step_append_lies w3 rfl (.tmp 15) (.tmp 22) 43 rfl B 3 i3 (.int .i64 0) 1 8 Try.underlying43 hi3 hz30 hz31 hz32 rfl (by decide) vi ids.length (ids.map num) rfl hR3.ids ⟨x1, 0, none⟩ 1 1 [.int .i64 (d : Nat)] rfl rfl ?_ (by simp [Value.oneCell']) (by decide) (by unfold maxLen; omega) (by omega) (by have := hR3.size; have := hR3.hB; omega) w3.heap.size rfl ?_
      · exact World.news_of_block hnew1
      intro g1 cap1 wa hown1 hgrow1 hat1 hlt1
      obtain ⟨hT, hKT⟩ := T1.of hR3 hK3 hown1 hgrow1 hat1
      have hnew2 := (chOf hgrow1).some hnew2 (fun hm => own_ne hR3.ids hnew2 (by simp) _ (by simpa using hm) rfl)
      refine hK _ _ (.inr hT.ts) ?_
      clear hK K
      simp only [Act.put, List.setIfInBounds_toArray, List.set_cons_zero, List.set_cons_succ, List.getElem_toArray, List.getElem_cons_succ, List.getElem_cons_zero]
      refine anyM_one (x := 19) (by kernel_rfl) rfl fun K hK => ?_
      refine step_append_lies wa rfl (.tmp 27) (.tmp 28) 44 rfl B 4 i4 (.bool false) 1 1 Try.underlying44 hi4 hz40 hz41 hz42 rfl (by decide) vl live.length (live.map Value.bool) rfl hT.live ⟨x2, 0, none⟩ 1 1 [.bool true] rfl rfl ?_ (by simp [Value.oneCell']) (by decide) (by unfold maxLen; omega) (by omega) (by have := lt_of_some hT.blk; have := hT.hB; omega) wa.heap.size rfl ?_
      · exact World.news_of_block hnew2
      intro g2 cap2 wz hown2 hgrow2 hat2 hlt2
      obtain ⟨⟨hblk, hts, hE⟩, hKE⟩ := T2.of hT hKT hown2 hgrow2
      refine hK _ _ (.inr hts) ?_
      clear hK K
      simp only [Act.put, List.setIfInBounds_toArray, List.set_cons_zero, List.set_cons_succ, List.getElem_toArray, List.getElem_cons_succ, List.getElem_cons_zero]
      refine anyM_take (i := 20) (v := ?vc20) rfl (by kernel_rfl) (by kernel_rfl) (by kernel_rfl) (fun _ _ _ h => h) (by kernel_rfl) (.inr hts) ⟨by rfl, ?yc20⟩ ?rc20
      case yc20 =>
        intro W
        go_simp
        try with_reducible rfl
      simp only [Act.put, List.setIfInBounds_toArray, List.set_cons_zero, List.set_cons_succ, List.getElem_toArray, List.getElem_cons_succ, List.getElem_cons_zero]
      refine anyM_take (i := 21) (v := ?vc21) rfl (by kernel_rfl) (by kernel_rfl) (by kernel_rfl) (fun _ _ _ h => h) (by kernel_rfl) (.inr hts) ⟨by rfl, ?yc21⟩ ?rc21
      case yc21 =>
        intro W
        go_simp
        try with_reducible rfl
      simp only [Act.put, List.setIfInBounds_toArray, List.set_cons_zero, List.set_cons_succ, List.getElem_toArray, List.getElem_cons_succ, List.getElem_cons_zero]
      have hf3 : wz.frozen? ⟨rb, 3, none⟩ = false := frozen_of hblk
      have hc3 : wz.cell? ⟨rb, 3, none⟩ = some vi := cell_of (i := 3) hblk rfl
      have hf2 : (wz.setCell ⟨rb, 3, none⟩ (.slice (some ⟨g1, 0, none⟩) (ids.length + 1) cap1)).frozen? ⟨rb, 2, none⟩ = false := frozen_of (heap_set (j := 3) _ hblk)
      have hc2 : (wz.setCell ⟨rb, 3, none⟩ (.slice (some ⟨g1, 0, none⟩) (ids.length + 1) cap1)).cell? ⟨rb, 2, none⟩ = some vl := cell_of (i := 2) (heap_set (j := 3) _ hblk) rfl
      refine anyM_one (x := 22) (by kernel_rfl) rfl fun K hK => ?_
      go_simp
      refine hK _ _ (.inl (by kernel_rfl)) ?_
      clear hK K
      refine anyM_take (i := 23) (v := ?vc23) rfl (by kernel_rfl) (by kernel_rfl) (by kernel_rfl) (fun _ _ _ h => h) (by kernel_rfl) (.inl (by kernel_rfl)) ⟨by rfl, ?yc23⟩ ?rc23
      case yc23 =>
        intro W
        go_simp
        try with_reducible rfl
      simp only [Act.put, List.setIfInBounds_toArray, List.set_cons_zero, List.set_cons_succ, List.getElem_toArray, List.getElem_cons_succ, List.getElem_cons_zero]
      refine anyM_take (i := 24) (v := ?vc24) rfl (by kernel_rfl) (by kernel_rfl) (by kernel_rfl) (fun _ _ _ h => h) (by kernel_rfl) (.inl (by kernel_rfl)) ⟨by rfl, ?yc24⟩ ?rc24
      case yc24 =>
        intro W
        go_simp
        try with_reducible rfl
      simp only [Act.put, List.setIfInBounds_toArray, List.set_cons_zero, List.set_cons_succ, List.getElem_toArray, List.getElem_cons_succ, List.getElem_cons_zero]
      refine anyM_one (x := 25) (by kernel_rfl) rfl fun K hK => ?_
      go_simp
      refine hK _ _ (.inl (by kernel_rfl)) (anyM_done (by kernel_rfl) ?_ _)
      clear hK K
      go_wp2_with fail
      go_meet
      exact ⟨_, _, hE, hKE⟩
  case rest =>
    obtain ⟨vl', vi', hR5, hK5⟩ := hcut
    obtain ⟨a3, cap3, rfl⟩ := own_len hR5.ids
    rw [List.length_append, List.length_singleton] at hR5
    have hR6 := hR5.alloc (.cells #[] 3)
    have c1 : (wc.alloc (.cells #[] 3)).cell? ⟨rb, 1, none⟩ = some (.slice (some ⟨gr, 0, none⟩) (row.length + 1) cr) := cell_of (i := 1) hR6.blk rfl
    have hK6 := hK5.alloc (.cells #[] 3)
    have hcr : row.length + 1 ≤ cr := by
      rcases hR5.row.2 with ⟨h, _⟩ | ⟨g', cap', cur, h, _, _, h3, _⟩
      · simp at h
      · simp only [Value.slice.injEq, Option.some.injEq, Addr.mk.injEq, and_true] at h
        simp at h3
        omega
    have hNE : (wc.alloc (.cells #[] 3)).ownsRow B 3 1 (.slice (some ⟨wc.heap.size, 0, none⟩) 0 0) 0 [] :=
      World.ownsRow_lit wc #[] 0 (by have := hR5.size; have := hR5.hB; omega) (by decide) rfl
    have hZ : B ≤ (wc.alloc (.cells #[] 3)).heap.size := by have := hR6.size; have := hR6.hB; omega
    have hnews : ∀ (A : Addr), (row.length = 0 ∨ A = ⟨gr, 1, none⟩) → ∀ j u, (row.map num)[j]? = some u → (wc.alloc (.cells #[] 3)).cell? (A.add j) = some u := by
      intro A hA j u hu
      have hj : j < row.length := by
        rcases Nat.lt_or_ge j row.length with h | h
        · exact h
        · rw [List.getElem?_eq_none (by simpa using h)] at hu; cases hu
      rcases hA with h | rfl
      · omega
      · have h := hR6.row.cellAt (1 + j) (by simp; omega)
        rw [show (⟨gr, 1, none⟩ : Addr).add j = ⟨gr, 1 + j, none⟩ by simp [Addr.add], h, List.map_cons, Nat.add_comm 1 j, List.getElem?_cons_succ]
        exact hu
    have hone : ∀ u ∈ row.map num, u.oneCell' = true := by
      intro u hu
      obtain ⟨x, _, rfl⟩ := List.mem_map.1 hu
      rfl
    have hlt : gr < wc.heap.size := (hR5.row.lt gr rfl).2
    have hvi : ∀ g, (Value.slice a3 (ids.length + 1) cap3).ownBlock = some g → g < wc.heap.size := fun g hg => (hR5.ids.lt g hg).2
    have hZs : (wc.alloc (.cells #[] 3)).heap.size = wc.heap.size + 1 := by simp
    have hne1 : wc.heap.size ≠ rb := by have := hR5.size; omega
    have hfar : ∀ (v : Value) e m xs, (wc.ownsRow B e 1 v m xs) → ∀ g, v.ownBlock = some g → g ∉ [wc.heap.size] := fun v e m xs h g hg => by
      have := (h.lt g hg).2
      simp; omega
    have HR := Lib.hid hR6
    have HR5 := Lib.hid hR5
    clear hR hK1 hR5 hR6
    by_cases hcr1 : cr = 1
    · subst hcr1
      obtain rfl : row = [] := List.eq_nil_of_length_eq_zero (by omega)
      simp only [List.length_nil, Nat.zero_add] at c1
      go_wp2_with (at_builtin; (refine wpList_append_own_at _ rfl _ _ 43 rfl B 3 i3 (.int .i64 0) 1 8 Try.underlying43 hi3 hz30 hz31 hz32 rfl (by decide) _ 0 [] rfl hNE ⟨gr, 0, none⟩ 0 _ (([] : List Nat).map num) rfl (by simp) (hnews _ (.inl rfl)) hone ?q2 ?q3 hZ ?_))
      case q2 => unfold maxLen; omega
      case q3 => omega
      intro v' w7 hown hgrow _ hat
      obtain ⟨a', cap', rfl⟩ := own_len hown
      try simp only [Nat.zero_add, List.nil_append] at hown
      have hch : Ch [wc.heap.size] (wc.alloc (.cells #[] 3)) w7 := chOf hgrow
      have hblk := hch.some HR.out.blk (by simpa using hne1.symm)
      have hc1 : w7.cell? ⟨rb, 1, none⟩ = some (.slice (some ⟨gr, 0, none⟩) (0 + 1) 1) := cell_of (i := 1) hblk rfl
      have hf1 : w7.frozen? ⟨rb, 1, none⟩ = false := frozen_of hblk
      have hblk8 := heap_set (j := 1) (.slice a' 0 cap') hblk
      have hc3 : (w7.setCell ⟨rb, 1, none⟩ (.slice a' 0 cap')).cell? ⟨rb, 3, none⟩ = some (.slice a3 (ids.length + 1) cap3) := cell_of (i := 3) hblk8 rfl
      have hch8 : Ch [rb] w7 (w7.setCell ⟨rb, 1, none⟩ (.slice a' 0 cap')) := (Ch.refl _ _).setCell (by simp) _
      have hlive7 := own_next (own_next HR5.out.live ((Ch.refl [] wc).alloc (.cells #[] 3)) (by simp)) hch (hfar _ _ _ _ HR5.out.live)
      have hids7 := own_next (own_next HR5.out.ids ((Ch.refl [] wc).alloc (.cells #[] 3)) (by simp)) hch (hfar _ _ _ _ HR5.out.ids)
      have hRR : Hid (Rp B rb n [] (live ++ [true]) (ids ++ [d]) (.slice a' 0 cap') vl' (.slice a3 (ids.length + 1) cap3) (w7.setCell ⟨rb, 1, none⟩ (.slice a' 0 cap'))) := by
        refine Lib.hid ⟨hblk8, HR.out.hB, own_next hown hch8 (fun x hx => by simpa using own_ne hown hblk (by unfold refB; simp) x hx), own_next hlive7 hch8 (fun x hx => by simpa using own_ne hlive7 hblk (by unfold refB; simp) x hx), own_next hids7 hch8 (fun x hx => by simpa using own_ne hids7 hblk (by unfold refB; simp) x hx), fun x hx hx' => ?_⟩
        have h1 := hvi x hx'
        rcases hat with hat | hat
        · rw [hat] at hx
          have := ob hx
          omega
        · rw [hat] at hx
          injection hx with hx
          omega
      have hKK : Hid (Kp B w (w7.setCell ⟨rb, 1, none⟩ (.slice a' 0 cap'))) := Lib.hid ((hK6.trans (Kp.of_ch hch fun x hx => by
          obtain rfl : x = wc.heap.size := by simpa using hx
          refine ⟨by have := HR5.out.size; have := HR5.out.hB; omega, fun o ho => ?_⟩
          rw [heap_new] at ho; cases ho; simp [Plain])).trans (Kp.of_ch hch8 fun x hx => by
          obtain rfl : x = rb := by simpa using hx
          exact ⟨HR.out.hB, fun o ho => by rw [hblk] at ho; cases ho; simp [Plain, refB]⟩))
      clear hnews hNE hone hZ hown hgrow hat hch hch8 hids7 hlive7 hblk8 hK6 HR HR5 hvi hfar hne1 hZs hlt
      go_wp2_with fail
      all_goals go_ret2
      all_goals exact ⟨rfl, ⟨_, _, _, hRR.out⟩, hKK.out⟩
    · go_wp2_with (at_builtin; (refine wpList_append_own_at _ rfl _ _ 43 rfl B 3 i3 (.int .i64 0) 1 8 Try.underlying43 hi3 hz30 hz31 hz32 rfl (by decide) _ 0 [] rfl hNE ⟨gr, 1, none⟩ row.length _ (row.map num) rfl (by simp) (hnews _ (.inr rfl)) hone ?q2 ?q3 hZ ?_))
      case q2 => unfold maxLen; omega
      case q3 => omega
      intro v' w7 hown hgrow _ hat
      obtain ⟨a', cap', rfl⟩ := own_len hown
      try simp only [Nat.zero_add, List.nil_append] at hown
      have hch : Ch [wc.heap.size] (wc.alloc (.cells #[] 3)) w7 := chOf hgrow
      have hblk := hch.some HR.out.blk (by simpa using hne1.symm)
      have hc1 : w7.cell? ⟨rb, 1, none⟩ = some (.slice (some ⟨gr, 0, none⟩) (row.length + 1) cr) := cell_of (i := 1) hblk rfl
      have hf1 : w7.frozen? ⟨rb, 1, none⟩ = false := frozen_of hblk
      have hblk8 := heap_set (j := 1) (.slice a' row.length cap') hblk
      have hc3 : (w7.setCell ⟨rb, 1, none⟩ (.slice a' row.length cap')).cell? ⟨rb, 3, none⟩ = some (.slice a3 (ids.length + 1) cap3) := cell_of (i := 3) hblk8 rfl
      have hch8 : Ch [rb] w7 (w7.setCell ⟨rb, 1, none⟩ (.slice a' row.length cap')) := (Ch.refl _ _).setCell (by simp) _
      have hlive7 := own_next (own_next HR5.out.live ((Ch.refl [] wc).alloc (.cells #[] 3)) (by simp)) hch (hfar _ _ _ _ HR5.out.live)
      have hids7 := own_next (own_next HR5.out.ids ((Ch.refl [] wc).alloc (.cells #[] 3)) (by simp)) hch (hfar _ _ _ _ HR5.out.ids)
      have hRR : Hid (Rp B rb n row (live ++ [true]) (ids ++ [d]) (.slice a' row.length cap') vl' (.slice a3 (ids.length + 1) cap3) (w7.setCell ⟨rb, 1, none⟩ (.slice a' row.length cap'))) := by
        refine Lib.hid ⟨hblk8, HR.out.hB, own_next hown hch8 (fun x hx => by simpa using own_ne hown hblk (by unfold refB; simp) x hx), own_next hlive7 hch8 (fun x hx => by simpa using own_ne hlive7 hblk (by unfold refB; simp) x hx), own_next hids7 hch8 (fun x hx => by simpa using own_ne hids7 hblk (by unfold refB; simp) x hx), fun x hx hx' => ?_⟩
        have h1 := hvi x hx'
        rcases hat with hat | hat
        · rw [hat] at hx
          have := ob hx
          omega
        · rw [hat] at hx
          injection hx with hx
          omega
      have hKK : Hid (Kp B w (w7.setCell ⟨rb, 1, none⟩ (.slice a' row.length cap'))) := Lib.hid ((hK6.trans (Kp.of_ch hch fun x hx => by
          obtain rfl : x = wc.heap.size := by simpa using hx
          refine ⟨by have := HR5.out.size; have := HR5.out.hB; omega, fun o ho => ?_⟩
          rw [heap_new] at ho; cases ho; simp [Plain])).trans (Kp.of_ch hch8 fun x hx => by
          obtain rfl : x = rb := by simpa using hx
          exact ⟨HR.out.hB, fun o ho => by rw [hblk] at ho; cases ho; simp [Plain, refB]⟩))
      clear hnews hNE hone hZ hown hgrow hat hch hch8 hids7 hlive7 hblk8 hK6 HR HR5 hvi hfar hne1 hZs hlt
      go_wp2_with fail
      all_goals go_ret2
      all_goals exact ⟨rfl, ⟨_, _, _, hRR.out⟩, hKK.out⟩
end Go.Proofs.Ytppakcijcjgoiaa
