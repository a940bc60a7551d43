/-
  Pool.Take.
-/
import Derived.Test.YtppakcijcjgoiaaBase
namespace Go.Proofs.Ytppakcijcjgoiaa
open Go.RowKit Go.Conc
set_option linter.unusedVariables false

theorem take_nil (w : World) : Calls Try.prog 10 #[.pointer none] w fun e w' => e = .returned (.tuple #[.pointer none, .int .i64 4]) ∧ w' = w := by
  go_enter Try.func10, Try.ntmps10
  go_wp2
  all_goals exact bodyPost_ret (v := .tuple #[.pointer none, .int .i64 4]) (by simp [results, Try.results10, go_sem]) rfl ⟨rfl, rfl⟩

theorem enter10 (bp : Nat) : Frame.enter Try.prog 10 #[.pointer (some ⟨bp, 0, none⟩)] .normal = (base 10).at ⟨#[.pointer (some ⟨bp, 0, none⟩), undef, undef, undef, undef, undef, undef, undef, undef, undef, undef, undef, undef, undef, undef, undef, undef, undef, undef], []⟩ [.code (Try.f10.body.getD .skip)] := by
  simp [Frame.enter, Frame.at, Try.func10, base, Try.f10]
  try rfl

set_option maxRecDepth 100000 in
theorem take_none (bp c k s r : Nat) (w : World) (h : w.heap[bp]? = some (poolB c)) (hc : w.heap[c]? = some (chanB k [] s r)) :
    Calls Try.prog 10 #[.pointer (some ⟨bp, 0, none⟩)] w fun e w' => e = .returned (.tuple #[.pointer none, .int .i64 6]) ∧ w' = w := by
  have h0 := cell_of (i := 0) (v := .chan (some c)) h rfl
  have h1 := frozen_of (i := 0) h
  refine calls_of_loneTo fun cs => ?_
  rw [enter10]
  refine LoneTo.goes (n := 100) ?_
  simp only [Try.f10, Option.getD_some]
  repeat (first | s_c stepG_seq | s_c stepG_skip | s_reg | s_c stepG_region_end | s_c stepG_block | s_cond true | s_cond false | s_c stepG_ret' | s_op)
  s_stop
  refine LoneTo.step (step_lone_select_default (c := c) (z := .int .i64 0) (cap := k) (s := s) (r := r) (tm := false) (stepG_comm (cases := #[rcase c (.int .i64 0)]) (blocking := false) (shape := .select) (w' := w) rfl rfl (by decide) (by simp [go_sem, execOp, rcase, Act.eval])) hc) ?_
  rw [Frame.finish_at]
  walk_nrm
  refine LoneTo.goes (n := 100) ?_
  repeat (first | s_c stepG_seq | s_c stepG_skip | s_reg | s_c stepG_region_end | s_c stepG_block | s_cond true | s_cond false | s_c stepG_ret' | s_op)
  s_stop
  exact LoneTo.done ⟨.returned (.tuple #[.pointer none, .int .i64 6]), _, rfl, ⟨rfl, rfl⟩, rfl, rfl, rfl, rfl, _, Try.func10, by simp [results, Try.f10, Frame.at]⟩

set_option maxRecDepth 100000 in
theorem take_some (bp c k s r i : Nat) (ids : List Nat) (w : World) (h : w.heap[bp]? = some (poolB c)) (hc : w.heap[c]? = some (chanB k (i :: ids) s r)) :
    Calls Try.prog 10 #[.pointer (some ⟨bp, 0, none⟩)] w fun e w' => e = .returned (.tuple #[.pointer (some ⟨w.heap.size, 0, none⟩), .int .i64 0]) ∧
      w'.heap.size = w.heap.size + 1 ∧ Ch [c] w w' ∧ w'.heap[c]? = some (chanB k ids s (r + 1)) ∧ w'.heap[w.heap.size]? = some (tokB bp i true) := by
  have h0 := cell_of (i := 0) (v := .chan (some c)) h rfl
  have h1 := frozen_of (i := 0) h
  have hlt := lt_of_some hc
  refine calls_of_loneTo fun cs => ?_
  rw [enter10]
  refine LoneTo.goes (n := 100) ?_
  simp only [Try.f10, Option.getD_some]
  repeat (first | s_c stepG_seq | s_c stepG_skip | s_reg | s_c stepG_region_end | s_c stepG_block | s_cond true | s_cond false | s_c stepG_ret' | s_op)
  s_stop
  refine LoneTo.step (step_lone_select_recv_buf (c := c) (z := .int .i64 0) (cap := k) (s := s) (r := r) (tm := false) (closed := false) (buf := nums (i :: ids)) (stepG_comm (cases := #[rcase c (.int .i64 0)]) (blocking := false) (shape := .select) (w' := w) rfl rfl (by decide) (by simp [go_sem, execOp, rcase, Act.eval])) hc (by simp [nums])) ?_
  rw [Frame.finish_at, nums_head, nums_tail]
  have hw1 : Ch [c] w (w.setChan c k (nums ids) false s (r + 1) false) := (Ch.refl _ _).setChan (by simp) _ _ _ _ _ _
  have hw2 : (w.setChan c k (nums ids) false s (r + 1) false).heap[c]? = some (chanB k ids s (r + 1)) := heap_setChan _ _ _ _ _ _ _ _ hlt
  have hw3 := size_setChan w c k (nums ids) false s (r + 1) false
  generalize w.setChan c k (nums ids) false s (r + 1) false = w1 at *
  walk_nrm
  refine LoneTo.goes (n := 100) ?_
  repeat (first | s_c stepG_seq | s_c stepG_skip | s_reg | s_c stepG_region_end | s_c stepG_block | s_cond true | s_cond false | s_c stepG_ret' | s_op)
  s_stop
  refine LoneTo.done ⟨.returned (.tuple #[.pointer (some ⟨w1.heap.size, 0, none⟩), .int .i64 0]), _, rfl, ⟨by rw [hw3], ?_, hw1.alloc _, ?_, ?_⟩, rfl, rfl, rfl, rfl, _, Try.func10, by simp [results, Try.f10, Frame.at]⟩
  · simp [hw3]
  · exact ((Ch.refl [] _).alloc _).some hw2 (by simp)
  · rw [← hw3]; exact heap_new _ _
end Go.Proofs.Ytppakcijcjgoiaa
