/-
  The document's End.
-/
import Derived.Test.YtppakcijcjgoiaaRef
namespace Go.Proofs.Ytppakcijcjgoiaa
open Go.RowKit Go.Conc
set_option linter.unusedVariables false

variable {B rb n : Nat} {row : List Nat} {live : List Bool} {ids : List Nat} {vr vl vi : Value} {w w' : World}

theorem ref_dead (k : Nat) (w : World) (h : Rp B rb n row live ids vr vl vi w) (hk : k < live.length) (hl : (live[k]'hk) = false) :
    Calls Try.prog 17 #[.pointer (some ⟨rb, 0, none⟩), .int .i64 k] w fun e w' => e = .returned (.int .i64 4) ∧ w = w' := by
  obtain ⟨gl, cl, rfl, _⟩ := own_slice h.live (by omega)
  have c2 : w.cell? ⟨rb, 2, none⟩ = some (.slice (some ⟨gl, 0, none⟩) live.length cl) := cell_of (i := 2) h.blk rfl
  have cL : w.cell? ⟨gl, k, none⟩ = some (.bool false) := by
    rw [h.live.cellAt k (by omega), List.getElem?_map, List.getElem?_eq_getElem hk, hl]; rfl
  clear h hl
  go_enter Try.func17, Try.ntmps17
  go_wp2
  all_goals go_ret
  all_goals exact ⟨rfl, rfl⟩

theorem Rp.cells {gi ci : Nat} (h : Rp B rb n row live ids vr vl (.slice (some ⟨gi, 0, none⟩) ids.length ci) w) {k : Nat} (hk2 : k < ids.length) :
    w.cell? ⟨rb, 1, none⟩ = some vr ∧ w.cell? ⟨rb, 3, none⟩ = some (.slice (some ⟨gi, 0, none⟩) ids.length ci) ∧ w.cell? ⟨gi, k, none⟩ = some (.int .i64 (ids[k]'hk2 : Nat)) :=
  ⟨cell_of (i := 1) h.blk rfl, cell_of (i := 3) h.blk rfl, by rw [h.ids.cellAt k (by omega), List.getElem?_map, List.getElem?_eq_getElem hk2]; rfl⟩

theorem ob {g n c g' : Nat} (h : (Value.slice (some ⟨g, 0, none⟩) n c).ownBlock = some g') : g = g' := by simpa [Value.ownBlock] using h
def W3S (rb gi k : Nat) (vr : Value) (L ci x : Nat) (W : World) : Prop :=
  W.cell? ⟨rb, 1, none⟩ = some vr ∧ W.cell? ⟨rb, 3, none⟩ = some (.slice (some ⟨gi, 0, none⟩) L ci) ∧ W.cell? ⟨gi, k, none⟩ = some (.int .i64 (x : Nat))

set_option maxRecDepth 100000 in
theorem ref_end (k : Nat) (w : World) (h : Rp B rb n row live ids vr vl vi w) (hk : k < live.length) (hk2 : k < ids.length) (hl : (live[k]'hk) = true) (hr : row.length ≤ 1000) :
    Calls Try.prog 17 #[.pointer (some ⟨rb, 0, none⟩), .int .i64 k] w fun e w' => e = .returned (.int .i64 0) ∧
      (∃ vr', Rp B rb n (row ++ [ids[k]'hk2]) (live.set k false) ids vr' vl vi w') ∧ Kp B w w' := by
  obtain ⟨i0, hi, hz0, hz1, hz2⟩ := info_parts Try.info3
  obtain ⟨gl, cl, rfl, hgl⟩ := own_slice h.live (by omega)
  obtain ⟨gi, ci, rfl, hgi⟩ := own_slice h.ids (by omega)
  have c2 : w.cell? ⟨rb, 2, none⟩ = some (.slice (some ⟨gl, 0, none⟩) live.length cl) := cell_of (i := 2) h.blk rfl
  have cL : w.cell? ⟨gl, k, none⟩ = some (.bool true) := by
    rw [h.live.cellAt k (by omega), List.getElem?_map, List.getElem?_eq_getElem hk, hl]; rfl
  have fL := h.live.frozenAt k
  have hst := h.live.stored k (.bool false)
  have hch : Ch [gl] w (w.setCell ⟨gl, k, none⟩ (.bool false)) := (Ch.refl _ _).setCell (by simp) _
  obtain ⟨curl, hcurl⟩ := own_at h.live (g := gl) rfl
  have hn1 : rb ≠ gl := ne_of_objs h.blk hcurl (by unfold refB; simp)
  have hn2 : ∀ g, vr.ownBlock = some g → g ≠ gl := own_ne h.row hcurl (by simp)
  have hn3 : gi ≠ gl := own_ne h.ids hcurl (by simp) gi rfl
  have hn4 : ∀ g, (Value.slice (some ⟨gi, 0, none⟩) ids.length ci).ownBlock = some g → g ∉ [gl] := by
    intro g hg
    obtain rfl : gi = g := by simpa [Value.ownBlock] using hg
    simpa using hn3
  have hR : Hid (Rp B rb n row (live.set k false) ids vr (.slice (some ⟨gl, 0, none⟩) live.length cl) (.slice (some ⟨gi, 0, none⟩) ids.length ci) (w.setCell ⟨gl, k, none⟩ (.bool false))) :=
    Lib.hid ⟨hch.some h.blk (by simpa using hn1), h.hB, own_next h.row hch (by simpa using hn2), by rw [List.length_set, List.map_set]; exact hst.1, own_next h.ids hch hn4, h.apart⟩
  have hK1 : Hid (Kp B w (w.setCell ⟨gl, k, none⟩ (.bool false))) := Lib.hid (Kp.of_ch hch (by
    intro x hx
    obtain rfl : x = gl := by simpa using hx
    exact ⟨hgl, fun o ho => by rw [hcurl] at ho; cases ho; simp [Plain]⟩))
  have HL := Lib.hid hk
  have HI := Lib.hid hk2
  clear hst hch hcurl hn1 hn2 hn3 hn4 h hl
  go_enter Try.func17, Try.ntmps17
  go_wp2
  generalize w.setCell ⟨gl, k, none⟩ (.bool false) = w1 at *
  have HS : Hid ((fun W : World => W.cell? ⟨rb, 1, none⟩ = some vr ∧ W.cell? ⟨rb, 3, none⟩ = some (.slice (some ⟨gi, 0, none⟩) ids.length ci) ∧ W.cell? ⟨gi, k, none⟩ = some (.int .i64 (ids[k]'hk2 : Nat))) w1.drew) :=
    Lib.hid (hR.out.cells hk2)
  refine anyM_start (fun W => W.cell? ⟨rb, 1, none⟩ = some vr ∧ W.cell? ⟨rb, 3, none⟩ = some (.slice (some ⟨gi, 0, none⟩) ids.length ci) ∧ W.cell? ⟨gi, k, none⟩ = some (.int .i64 (ids[k]'hk2 : Nat))) 16 17 (by kernel_rfl) (by kernel_rfl) ?_
  refine anyM_take (i := 0) (v := ?v0) rfl (by kernel_rfl) (by kernel_rfl) (by kernel_rfl) (fun _ _ _ h => h) (by kernel_rfl) (.inr HS.out) ⟨by rfl, ?y0⟩ ?r0
  case y0 =>
    intro W
    go_simp
    try with_reducible rfl
  simp only [Act.put, List.setIfInBounds_toArray, List.set_cons_zero, List.set_cons_succ, List.getElem_toArray, List.getElem_cons_zero]
  refine anyM_take (i := 1) (v := ?v1) rfl (by kernel_rfl) (by kernel_rfl) (by kernel_rfl) (fun _ _ _ h => h) (by kernel_rfl) (.inr HS.out) ⟨by rfl, ?y1⟩ ?r1
  case y1 =>
    intro W
    go_simp
    try with_reducible rfl
  simp only [Act.put, List.setIfInBounds_toArray, List.set_cons_zero, List.set_cons_succ, List.getElem_toArray, List.getElem_cons_succ, List.getElem_cons_zero]
  refine anyM_take (i := 2) (v := ?v2) rfl (by kernel_rfl) (by kernel_rfl) (by kernel_rfl) (fun _ _ _ h => h) (by kernel_rfl) (.inr HS.out) ⟨by rfl, ?y2⟩ ?r2
  case y2 =>
    intro W
    go_simp
    try with_reducible rfl
  simp only [Act.put, List.setIfInBounds_toArray, List.set_cons_zero, List.set_cons_succ, List.getElem_toArray, List.getElem_cons_succ, List.getElem_cons_zero]
  refine anyM_take (i := 3) (v := ?v3) rfl (by kernel_rfl) (by kernel_rfl) (by kernel_rfl) (fun _ _ _ h => h) (by kernel_rfl) (.inr HS.out) ⟨by rfl, ?y3⟩ ?r3
  case y3 =>
    intro W
    go_simp
    try with_reducible rfl
  simp only [Act.put, List.setIfInBounds_toArray, List.set_cons_zero, List.set_cons_succ, List.getElem_toArray, List.getElem_cons_succ, List.getElem_cons_zero]
  refine anyM_load (i := 4) (v := ?v4) rfl (by kernel_rfl) (by kernel_rfl) (by kernel_rfl) (fun _ _ _ h => h) (by kernel_rfl) (by kernel_rfl) (by kernel_rfl) HS.out ⟨by rfl, ?y4⟩ ?r4
  case y4 =>
    intro W hW
    try dsimp only at hW
    go_simp
    try with_reducible rfl
  simp only [Act.put, List.setIfInBounds_toArray, List.set_cons_zero, List.set_cons_succ, List.getElem_toArray, List.getElem_cons_succ, List.getElem_cons_zero]
  refine anyM_take (i := 5) (v := ?v5) rfl (by kernel_rfl) (by kernel_rfl) (by kernel_rfl) (fun _ _ _ h => h) (by kernel_rfl) (.inr HS.out) ⟨by rfl, ?y5⟩ ?r5
  case y5 =>
    intro W
    go_simp
    try with_reducible rfl
  simp only [Act.put, List.setIfInBounds_toArray, List.set_cons_zero, List.set_cons_succ, List.getElem_toArray, List.getElem_cons_succ, List.getElem_cons_zero]
  refine anyM_take (i := 6) (v := ?v6) rfl (by kernel_rfl) (by kernel_rfl) (by kernel_rfl) (fun _ _ _ h => h) (by kernel_rfl) (.inr HS.out) ⟨by rfl, ?y6⟩ ?r6
  case y6 =>
    intro W
    go_simp
    try with_reducible rfl
  simp only [Act.put, List.setIfInBounds_toArray, List.set_cons_zero, List.set_cons_succ, List.getElem_toArray, List.getElem_cons_succ, List.getElem_cons_zero]
  refine anyM_take (i := 7) (v := ?v7) rfl (by kernel_rfl) (by kernel_rfl) (by kernel_rfl) (fun _ _ _ h => h) (by kernel_rfl) (.inr HS.out) ⟨by rfl, ?y7⟩ ?r7
  case y7 =>
    intro W
    go_simp
    try with_reducible rfl
  simp only [Act.put, List.setIfInBounds_toArray, List.set_cons_zero, List.set_cons_succ, List.getElem_toArray, List.getElem_cons_succ, List.getElem_cons_zero]
  refine anyM_load (i := 8) (v := ?v8) rfl (by kernel_rfl) (by kernel_rfl) (by kernel_rfl) (fun _ _ _ h => h) (by kernel_rfl) (by kernel_rfl) (by kernel_rfl) HS.out ⟨by rfl, ?y8⟩ ?r8
  case y8 =>
    intro W hW
    try dsimp only at hW
    go_simp
    try with_reducible rfl
  simp only [Act.put, List.setIfInBounds_toArray, List.set_cons_zero, List.set_cons_succ, List.getElem_toArray, List.getElem_cons_succ, List.getElem_cons_zero]
  refine anyM_take (i := 9) (v := ?v9) rfl (by kernel_rfl) (by kernel_rfl) (by kernel_rfl) (fun _ _ _ h => h) (by kernel_rfl) (.inr HS.out) ⟨by rfl, ?y9⟩ ?r9
  case y9 =>
    intro W
    go_simp
    try with_reducible rfl
  simp only [Act.put, List.setIfInBounds_toArray, List.set_cons_zero, List.set_cons_succ, List.getElem_toArray, List.getElem_cons_succ, List.getElem_cons_zero]
  refine anyM_take (i := 10) (v := ?v10) rfl (by kernel_rfl) (by kernel_rfl) (by kernel_rfl) (fun _ _ _ h => h) (by kernel_rfl) (.inr HS.out) ⟨by rfl, ?y10⟩ ?r10
  case y10 =>
    intro W
    go_simp
    try with_reducible rfl
  simp only [Act.put, List.setIfInBounds_toArray, List.set_cons_zero, List.set_cons_succ, List.getElem_toArray, List.getElem_cons_succ, List.getElem_cons_zero]
  refine anyM_load (i := 11) (v := ?v11) rfl (by kernel_rfl) (by kernel_rfl) (by kernel_rfl) (fun _ _ _ h => h) (by kernel_rfl) (by kernel_rfl) (by kernel_rfl) HS.out ⟨by rfl, ?y11⟩ ?r11
  case y11 =>
    intro W hW
    try dsimp only at hW
    go_simp
    try with_reducible rfl
  simp only [Act.put, List.setIfInBounds_toArray, List.set_cons_zero, List.set_cons_succ, List.getElem_toArray, List.getElem_cons_succ, List.getElem_cons_zero]
  refine anyM_one (x := 12) (by kernel_rfl) rfl fun K hK => ?_
  go_simp
  have hR2 : Hid (Rp B rb n row (live.set k false) ids vr (.slice (some ⟨gl, 0, none⟩) live.length cl) (.slice (some ⟨gi, 0, none⟩) ids.length ci) (w1.alloc (.cells #[.int .i64 (ids[k]'hk2 : Nat)] 3)).drew) :=
    Lib.hid (hR.out.next (((Ch.refl [] _).alloc _).drewN 1) (by simp) (by simp) (by simp) (by simp))
  have hK2 : Hid (Kp B w (w1.alloc (.cells #[.int .i64 (ids[k]'hk2 : Nat)] 3)).drew) :=
    Lib.hid (hK1.out.trans (Kp.of_ch (((Ch.refl [] _).alloc _).drewN 1) (by simp)))
  have hnew : (w1.alloc (.cells #[.int .i64 (ids[k]'hk2 : Nat)] 3)).drew.heap[w1.heap.size]? = some (.cells #[.int .i64 (ids[k]'hk2 : Nat)] 3) := heap_new _ _
  have hBs : B ≤ (w1.alloc (.cells #[.int .i64 (ids[k]'hk2 : Nat)] 3)).drew.heap.size := by have := hR2.out.size; have := hR2.out.hB; omega
  refine hK _ _ (.inr (hR2.out.cells hk2)) ?_
  clear hK K HS hR hK1
  generalize (w1.alloc (.cells #[.int .i64 (ids[k]'hk2 : Nat)] 3)).drew = w2 at *
  refine anyM_one (x := 13) (by kernel_rfl) rfl fun K hK => ?_
  refine step_append_lies w2 rfl (.tmp 23) (.tmp 31) 43 rfl B 3 i0 (.int .i64 0) 1 8 Try.underlying43 hi hz0 hz1 hz2 rfl (by decide) vr row.length (row.map num) rfl hR2.out.row ⟨w1.heap.size, 0, none⟩ 1 1 [.int .i64 (ids[k]'hk2 : Nat)] rfl rfl ?_ (by simp [Value.oneCell']) (by decide) (by unfold maxLen; omega) (by omega) hBs w2.heap.size rfl ?_
  · exact World.news_of_block hnew
  intro g cap w3 hown hgrow hat hlt
  have hch : Ch vr.ownBlock.toList w2 w3 := chOf hgrow
  have n0 : rb ∉ vr.ownBlock.toList := fun hm => own_ne hR2.out.row hR2.out.blk (by unfold refB; simp) rb (by simpa using hm) rfl
  have hn1 : ∀ g, vr.ownBlock = some g → g ≠ gl := by
    obtain ⟨cur, hcur⟩ := own_at hR2.out.live (g := gl) rfl
    exact own_ne hR2.out.row hcur (by simp)
  have hn2 : ∀ g, vr.ownBlock = some g → g ≠ gi := fun g hg e => hR2.out.apart g hg (by rw [e]; rfl)
  have hblk : w3.heap[rb]? = some (refB n vr (.slice (some ⟨gl, 0, none⟩) live.length cl) (.slice (some ⟨gi, 0, none⟩) ids.length ci)) := hch.some hR2.out.blk n0
  have hl3 := own_next hR2.out.live hch (fun g hg hm => hn1 g (by simpa using hm) (ob hg).symm)
  have hi3 := own_next hR2.out.ids hch (fun g hg hm => hn2 g (by simpa using hm) (ob hg).symm)
  have hK3 : Hid (Kp B w w3) := Lib.hid (hK2.out.trans (Kp.of_ch hch (by
    intro x hx
    have hx' : vr.ownBlock = some x := by simpa using hx
    obtain ⟨cur, hcur⟩ := own_at hR2.out.row hx'
    exact ⟨(hR2.out.row.lt x hx').1, fun o ho => by rw [hcur] at ho; cases ho; simp [Plain]⟩)))
  have hap : gi ≠ g := by
    rcases hat with hat | hat
    · exact fun e => hn2 g hat e.symm
    · have := (hR2.out.ids.lt gi rfl).2
      omega
  have hSS : W3S rb gi k vr ids.length ci (ids[k]'hk2) w3 := ⟨cell_of (i := 1) hblk rfl, cell_of (i := 3) hblk rfl, by rw [hi3.cellAt k (by omega), List.getElem?_map, List.getElem?_eq_getElem hk2]; rfl⟩
  have hf1 : w3.frozen? ⟨rb, 1, none⟩ = false := frozen_of hblk
  have hc1 : w3.cell? ⟨rb, 1, none⟩ = some vr := hSS.1
  have hB' := hR2.out.hB
  refine hK _ _ (.inr hSS) ?_
  clear hK K
  simp only [Act.put, List.setIfInBounds_toArray, List.set_cons_zero, List.set_cons_succ, List.getElem_toArray, List.getElem_cons_succ, List.getElem_cons_zero]
  refine anyM_take (i := 14) (v := ?v14) rfl (by kernel_rfl) (by kernel_rfl) (by kernel_rfl) (fun _ _ _ h => h) (by kernel_rfl) (.inr hSS) ⟨by rfl, ?y14⟩ ?r14
  case y14 =>
    intro W
    go_simp
    try with_reducible rfl
  simp only [Act.put, List.setIfInBounds_toArray, List.set_cons_zero, List.set_cons_succ, List.getElem_toArray, List.getElem_cons_succ, List.getElem_cons_zero]
  refine anyM_take (i := 15) (v := ?v15) rfl (by kernel_rfl) (by kernel_rfl) (by kernel_rfl) (fun _ _ _ h => h) (by kernel_rfl) (.inr hSS) ⟨by rfl, ?y15⟩ ?r15
  case y15 =>
    intro W
    go_simp
    try with_reducible rfl
  simp only [Act.put, List.setIfInBounds_toArray, List.set_cons_zero, List.set_cons_succ, List.getElem_toArray, List.getElem_cons_succ, List.getElem_cons_zero]
  refine anyM_one (x := 16) (by kernel_rfl) rfl fun K hK => ?_
  go_simp
  have hch4 : Ch [rb] w3 (w3.setCell ⟨rb, 1, none⟩ (.slice (some ⟨g, 0, none⟩) (row.length + 1) cap)) := (Ch.refl _ _).setCell (by simp) _
  have hblk4 := heap_set (j := 1) (.slice (some ⟨g, 0, none⟩) (row.length + 1) cap) hblk
  have hR4 : Hid (Rp B rb n (row ++ [ids[k]'hk2]) (live.set k false) ids (.slice (some ⟨g, 0, none⟩) (row.length + 1) cap) (.slice (some ⟨gl, 0, none⟩) live.length cl) (.slice (some ⟨gi, 0, none⟩) ids.length ci) (w3.setCell ⟨rb, 1, none⟩ (.slice (some ⟨g, 0, none⟩) (row.length + 1) cap))) := by
    refine Lib.hid ⟨hblk4, hB', ?_, own_next hl3 hch4 ?_, own_next hi3 hch4 ?_, ?_⟩
    · have := own_next hown hch4 (fun g' hg => by simpa using own_ne hown hblk (by unfold refB; simp) g' hg)
      simpa [num] using this
    · intro g' hg
      simpa using own_ne hl3 hblk (by unfold refB; simp) g' hg
    · intro g' hg
      simpa using own_ne hi3 hblk (by unfold refB; simp) g' hg
    · intro g' hg hg'
      have e1 : g = g' := by simpa [Value.ownBlock] using hg
      have e2 : gi = g' := by simpa [Value.ownBlock] using hg'
      omega
  have hK4 : Hid (Kp B w (w3.setCell ⟨rb, 1, none⟩ (.slice (some ⟨g, 0, none⟩) (row.length + 1) cap))) := Lib.hid (hK3.out.trans (Kp.of_ch hch4 (by
    intro x hx
    obtain rfl : x = rb := by simpa using hx
    exact ⟨hB', fun o ho => by rw [hblk] at ho; cases ho; simp [Plain, refB]⟩)))
  refine hK _ _ (.inl (by kernel_rfl)) (anyM_done (by kernel_rfl) ?_ _)
  clear hK K
  generalize w3.setCell ⟨rb, 1, none⟩ (.slice (some ⟨g, 0, none⟩) (row.length + 1) cap) = w4 at *
  go_wp2
  all_goals go_ret
  all_goals exact ⟨rfl, ⟨_, hR4.out⟩, hK4.out⟩
end Go.Proofs.Ytppakcijcjgoiaa
