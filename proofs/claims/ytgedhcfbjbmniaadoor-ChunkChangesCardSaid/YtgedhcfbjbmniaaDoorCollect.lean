/-
  slices.Collect of the set's numbers.
-/
import Derived.Test.YtgedhcfbjbmniaaDoorAll
import Derived.Maps.AppendAt
import Derived.RangeFuncBox
namespace Go.Proofs.YtgedhcfbjbmniaaDoor
open Go.RowKit Go.Shelf
set_option linter.unusedVariables false
attribute [local go_sem] Oper.semAt_some

theorem tab_near {Bc B : Nat} {W W' : World} (h : Tab W) (hn : Near Bc B W W') (h0 : Bc ≠ 0) : Tab W' := by
  intro j hj
  have hc := h j hj
  obtain ⟨o, ho, hcells⟩ := cells_of_cell hc
  have := hn.same 0 o ho (fun e => h0 e.symm) (.inr hcells)
  rw [← hc]
  exact World.cell?_of_block (this.trans ho.symm)
theorem tab_below {B : Nat} {W W' : World} (h : Tab W) (hb : Below B W W') (h0 : 0 < B) : Tab W' := fun j hj => (hb.cell (p := ⟨0, j, none⟩) h0).trans (h j hj)
theorem below_near {Bc B C : Nat} {w W W' : World} (h : Below B w W) (hn : Near Bc C W W') (hB : B ≤ Bc) (hC : B ≤ C) (hs : B ≤ W.heap.size) : Below B w W' :=
  h.trans ⟨hn.os, hn.tape, hn.output, hn.size, fun k hk => by
    have hlt : k < W.heap.size := by omega
    have hg := Array.getElem?_eq_getElem hlt
    rw [hg]
    exact hn.same k _ hg (by omega) (.inl (by omega))⟩

theorem own_lower {B B' n : Nat} {e : TypeId} {v : Value} {xs : List Value} {w : World} (h : w.ownsRow B e 1 v n xs) (hB : B' ≤ B) : w.ownsRow B' e 1 v n xs := by
  refine ⟨h.1, ?_⟩
  rcases h.2 with hn | ⟨g, cap, cur, rfl, hb, rest⟩
  · exact .inl hn
  · exact .inr ⟨g, cap, cur, rfl, by omega, rest⟩
/-- the box of s and its row -/
def Gath (B Bc sb : Nat) (w : World) (pre : List Nat) (W : World) : Prop :=
  (∃ v, W.heap[sb]? = some (.cells #[v] 25) ∧ W.ownsRow (sb + 1) 3 1 v pre.length (pre.map num)) ∧ Tab W ∧ Below B w W ∧ sb < W.heap.size

theorem gath_near {B Bc sb C : Nat} {w W W' : World} {pre : List Nat} (h : Gath B Bc sb w pre W) (hn : Near Bc C W W') (hB0 : 0 < B) (hB : B ≤ Bc) (hs : Bc < sb) (hC : B ≤ C) : Gath B Bc sb w pre W' := by
  obtain ⟨⟨v, hb, hr⟩, ht, hbl, hsz⟩ := h
  refine ⟨⟨v, hn.same _ _ hb (by omega) (.inr rfl), ?_⟩, tab_near ht hn (by omega), below_near hbl hn hB hC (by omega), by have := hn.size; omega⟩
  refine ⟨hr.1, ?_⟩
  rcases hr.2 with h | ⟨g, cap, cur, rfl, hbg, hg, rest⟩
  · exact .inl h
  · exact .inr ⟨g, cap, cur, rfl, hbg, hn.same _ _ hg (by omega) (.inr rfl), rest⟩

set_option maxRecDepth 100000 in
set_option maxHeartbeats 2000000 in
theorem append_seq (n x Bc B : Nat) (w : World) (hn : 4 ≤ n) (hx : x < 4294967296) (hbox : w.heap[Bc]? = some (boxB x)) (hB0 : 0 < B) (hB : B ≤ Bc) (hT : Tab w) :
    CallsIn Fence.wide n Tryd.prog 25 #[.slice none 0 0, .func (.func 23) #[] #[.pointer (some ⟨Bc, 0, none⟩)]] w fun e w' =>
      ∃ v, e = .returned v ∧ w'.ownsRow B 3 1 v (low x 32).length ((low x 32).map num) ∧ Below B w w' := by
  have hBl : Bc < w.heap.size := (Array.getElem?_eq_some_iff.1 hbox).1
  obtain ⟨i0, hi, hz0, hz1, hz2⟩ := info_parts Tryd.info3
  have hs : (w.alloc (.cells #[.slice none 0 0] 25)).heap.size = w.heap.size + 1 := by simp
  refine callsIn_of_wp_marks Tryd.func25 rfl trivial ?_ rfl
  simp only [Tryd.ntmps25, List.size_toArray, List.length_cons, List.length_nil, Nat.reduceAdd, Nat.reduceSub, Array.replicate_succ, Array.replicate_zero, List.push_toArray, List.append_toArray, List.nil_append, List.cons_append]
  gi_wp2
  refine range_set (x := x) (Bc := Bc) hn hx rfl rfl ((Below.heap_alloc _ _ _ hBl).trans hbox)
    (Gath B Bc w.heap.size w) (fun _ _ _ => False)
    (fun pre W W' h hne => gath_near h (by rw [hs] at hne; exact hne) hB0 hB hBl (by omega))
    (fun _ _ _ _ h _ => h) (fun pre W h => h.2.1)
    ⟨⟨_, World.alloc_heap_new w _, World.ownsRow_nil _ _ _ _⟩, tab_below hT ((Below.refl _ w).alloc (Nat.le_refl _) _) (by omega), (Below.refl _ w).alloc (by omega) _, by omega⟩
    (fun k => { tmps := #[.slice none 0 0, .func (.func 23) #[] #[.pointer (some ⟨Bc, 0, none⟩)], .pointer (some ⟨w.heap.size, 0, none⟩), undef, .slice none 0 0, .int .i64 (k : Nat), .func (.func 23) #[] #[.pointer (some ⟨Bc, 0, none⟩)], .int .i64 (k : Nat), undef, undef, undef, undef, undef], defers := [] }) ?assign ?body ?done ?stop
  case assign =>
    intro l k W K hK
    gi_wp2
    exact hK
  case body =>
    rintro l pre k W ⟨⟨v, hb, hrow⟩, ht, hbl, hsz⟩ hpre hle
    rw [hs] at hle
    rw [hs]
    have hc : W.cell? ⟨w.heap.size, 0, none⟩ = some v := by simp [World.cell?, hb]
    have hlen : pre.length + 1 ≤ 32 := by
      have h1 := hpre.length_le
      have h2 := low_le x 32
      simp at h1; omega
    have hZ : w.heap.size + 1 ≤ (W.alloc (.cells #[.int .i64 (k : Nat)] 3)).heap.size := by simp; omega
    have h1c : ∀ u ∈ [Value.int .i64 ((k : Nat) : Int)], u.oneCell' = true := by intro u hu; simp at hu; subst hu; rfl
    have hmx : pre.length + 1 ≤ maxLen := by unfold maxLen; omega
    have HH := Lib.hid (show Gath B Bc w.heap.size w pre W from ⟨⟨v, hb, hrow⟩, ht, hbl, hsz⟩)
    clear ht hbl
    gi_wp2_with (gi_at_builtin; refine wpListIn_append_own _ rfl _ _ 25 rfl (w.heap.size + 1) 3 i0 (.int .i64 0) 1 8 Tryd.underlying25 hi hz0 hz1 hz2 rfl (by decide) _ _ _ rfl (hrow.alloc _) ⟨W.heap.size, 0, none⟩ 1 1 [.int .i64 ((k : Nat) : Int)] rfl rfl (cell_one_new W (.int .i64 (k : Nat)) 3) h1c hmx (by omega) hZ ?_)
    intro v' wa hown' hgrow _
    obtain ⟨g, cap, rfl⟩ := ownsRow_succ hown'
    have hown2 : ∀ q, v.ownBlock = some q → w.heap.size + 1 ≤ q ∧ ∃ o : Obj, W.heap[q]? = some o ∧ o.isCells = true := fun q hq => by
      refine ⟨(hrow.lt q hq).1, ?_⟩
      rcases hrow.2 with ⟨rfl, _⟩ | ⟨g', cap', cur, rfl, _, hg, _⟩
      · simp [Value.ownBlock] at hq
      · simp [Value.ownBlock] at hq; subst hq; exact ⟨_, hg, rfl⟩
    have keep : ∀ (q : Nat) (o : Obj), W.heap[q]? = some o → (q < w.heap.size + 1 ∨ o.isCells = false) → wa.heap[q]? = some o := fun q o hq hor => by
      have hql := (Array.getElem?_eq_some_iff.1 hq).1
      have h1 := (Below.heap_alloc W (.cells #[.int .i64 ((k : Nat) : Int)] 3) q hql).trans hq
      refine (hgrow.block q (by simp; omega) fun e => ?_).trans h1
      obtain ⟨h2, o', h3, h4⟩ := hown2 q e.symm
      rcases hor with h | h
      · omega
      · rw [hq] at h3; cases h3; rw [h] at h4; cases h4
    have hb2 := keep _ _ hb (.inl (by omega))
    have hc2 : wa.cell? ⟨w.heap.size, 0, none⟩ = some v := by simp [World.cell?, hb2]
    have hf2 : wa.frozen? ⟨w.heap.size, 0, none⟩ = false := by simp [World.frozen?, hb2]
    have hset : (wa.setCell ⟨w.heap.size, 0, none⟩ (.slice (some ⟨g, 0, none⟩) (pre.length + 1) cap)).heap[w.heap.size]? = some (.cells #[.slice (some ⟨g, 0, none⟩) (pre.length + 1) cap] 25) := by
      simp only [World.setCell, Array.getElem?_modify, if_true, hb2]; rfl
    have hga := (hown'.lt g rfl).1
    have hsa := hgrow.size
    have hLv : Leave Bc (w.heap.size + 1) W (wa.setCell ⟨w.heap.size, 0, none⟩ (.slice (some ⟨g, 0, none⟩) (pre.length + 1) cap)) := by
      refine ⟨?_, ?_, fun q o hq ho hnc => ?_⟩
      · simp [World.setCell] at hsa ⊢; omega
      · obtain ⟨ob, hob⟩ : ∃ o : Obj, W.heap[Bc]? = some o := ⟨_, Array.getElem?_eq_getElem (by omega)⟩
        rw [hob]
        exact (Below.heap_setCell _ _ _ _ (by simp; omega)).trans (keep _ _ hob (.inl (by omega)))
      · exact (Below.heap_setCell _ _ _ _ (by simp; omega)).trans (keep _ _ ho (.inr hnc))
    have hGa : Gath B Bc w.heap.size w (pre ++ [k]) (wa.setCell ⟨w.heap.size, 0, none⟩ (.slice (some ⟨g, 0, none⟩) (pre.length + 1) cap)) := by
      obtain ⟨_, ht, hbl, _⟩ := HH.out
      have hbl2 : Below B w wa := Below.grown (hbl.alloc (by omega) _) hgrow (by simp; omega) (fun q hq => by have := (hown2 q hq).1; omega)
      refine ⟨⟨_, hset, ?_⟩, tab_below hT (hbl2.setCell (by show B ≤ w.heap.size; omega) _) hB0, hbl2.setCell (by show B ≤ w.heap.size; omega) _, by simp [World.setCell] at hsa ⊢; omega⟩
      have := hown'.kept (grownBy_setCell' wa w.heap.size (.slice (some ⟨g, 0, none⟩) (pre.length + 1) cap)) (.inr (by simp [Value.ownBlock]; omega))
      simpa [num] using this
    have HL := Lib.hid hLv
    have HG := Lib.hid hGa
    clear hLv hGa hset hown' hgrow hown2 keep hrow hb hb2 HH h1c
    gi_wp2
    exact ⟨HL.out, HG.out⟩
  case done =>
    rintro D W hD ⟨⟨v, hb, hrow⟩, ht, hbl, hsz⟩ hK
    rw [hs] at hD
    have hc : W.cell? ⟨w.heap.size, 0, none⟩ = some v := by simp [World.cell?, hb]
    dsimp only
    gi_wp2
    refine ⟨by simp, .inl ⟨_, _, rfl, run_takeDeferred hK, ?_⟩⟩
    refine ⟨_, results_tmp rfl _ _ _, v, rfl, own_lower (hrow.kept (grownBy_putObj' W D (.deferred none)) (.inr fun e => ?_)) (by omega), hbl.grown (grownBy_putObj' W D (.deferred none)) (by omega) (fun q e => by cases e; omega)⟩
    rcases hrow.2 with ⟨rfl, _⟩ | ⟨g', cap', cur, rfl, _, hg, _⟩
    · simp [Value.ownBlock] at e
    · simp [Value.ownBlock] at e
      subst e
      rw [hg] at hK; cases hK
  case stop =>
    rintro D c pre W _ _ h _
    exact h.elim

theorem all_any (x : Nat) (w : World) : Calls Tryd.prog 14 #[.int .u32 x] w fun e w' => e = .returned (.func (.func 23) #[] #[.pointer (some ⟨w.heap.size, 0, none⟩)]) ∧ w' = w.alloc (boxB x) := by
  go_enter Tryd.func14, Tryd.ntmps14
  go_wp2
  all_goals go_ret
  all_goals exact ⟨rfl, rfl⟩

theorem collect_any (x Bc B : Nat) (w : World) (hx : x < 4294967296) (hbox : w.heap[Bc]? = some (boxB x)) (hB0 : 0 < B) (hB : B ≤ Bc) (hT : Tab w) :
    Calls Tryd.prog 16 #[.func (.func 23) #[] #[.pointer (some ⟨Bc, 0, none⟩)]] w fun e w' =>
      ∃ v, e = .returned v ∧ w'.ownsRow B 3 1 v (low x 32).length ((low x 32).map num) ∧ Below B w w' := by
  have HA := Lib.hid (append_seq 4 x Bc B w (by decide) hx hbox hB0 hB hT)
  clear hbox hT
  go_enter Tryd.func16, Tryd.ntmps16
  go_wp2_with fail
  refine (callsIn_wide.1 HA.out).mono ?_
  rintro e w' ⟨v, rfl, hv, hb⟩
  go_wp2_with fail
  all_goals go_ret
  all_goals exact ⟨v, rfl, hv, hb⟩
end Go.Proofs.YtgedhcfbjbmniaaDoor
