/-
  token.New.
-/
import Derived.Test.YtppakcijcjgoiaaBase
namespace Go.Proofs.Ytppakcijcjgoiaa
open Go.RowKit Go.Conc
set_option linter.unusedVariables false

theorem lone_loop {P : Program} {Q : Goroutine → World → Prop} {b : Frame} {c : Code} {k : List Item} {cs : List Frame} (I : Nat → Act → World → Prop)
    (hround : ∀ m a w, I (m + 1) a w → (∀ a' w', I m a' w' → LoneTo P Q (G (b.at a' (.code c :: .inLoop c :: k)) cs) w') → LoneTo P Q (G (b.at a (.code c :: .inLoop c :: k)) cs) w)
    (hend : ∀ a w, I 0 a w → LoneTo P Q (G (b.at a (.code c :: .inLoop c :: k)) cs) w) : ∀ m a w, I m a w → LoneTo P Q (G (b.at a (.code c :: .inLoop c :: k)) cs) w := by
  intro m
  induction m with
  | zero => exact hend
  | succ m ih => exact fun a w h => hround m a w h ih

theorem new_bad (n : Int) (w : World) (h : n < 1 ∨ 4096 < n) : Calls Try.prog 9 #[.int .i64 n] w fun e w' => e = .returned (.tuple #[.pointer none, .int .i64 1]) ∧ w' = w := by
  rcases h with h | h
  · have h1 : decide (n < 1) = true := by simpa using h
    go_enter Try.func9, Try.ntmps9
    go_wp2
    all_goals exact bodyPost_ret (v := .tuple #[.pointer none, .int .i64 1]) (by simp [results, Try.results9, go_sem]) rfl ⟨rfl, rfl⟩
  · have h1 : decide (n < 1) = false := by simp; omega
    have h2 : decide (4096 < n) = true := by simpa using h
    go_enter Try.func9, Try.ntmps9
    go_wp2
    all_goals exact bodyPost_ret (v := .tuple #[.pointer none, .int .i64 1]) (by simp [results, Try.results9, go_sem]) rfl ⟨rfl, rfl⟩

theorem info3b : ∃ j, Try.prog.info? 3 = some j ∧ j.bytes = 8 := by
  have h : (Try.prog.info? 3).map (·.bytes) = some 8 := by kernel_rfl
  obtain ⟨j, hj, hs⟩ := Option.map_eq_some_iff.1 h
  exact ⟨j, hj, by omega⟩
theorem mkChan (n : Nat) (h : n ≤ 4096) (w : World) : (Instr.makeChan 49 (.int .i64 n)).run Try.prog w = .ok (.chan (some w.heap.size)) (w.alloc (.chan n #[] false 0 0 false)) := by
  obtain ⟨i, hi, hb⟩ := info3b
  exact run_makeChan (P := Try.prog) (w := w) Try.underlying49 hi .i64 n (by omega) (by rw [hb]; omega)

theorem enter9 (n : Nat) : Frame.enter Try.prog 9 #[.int .i64 n] .normal = (base 9).at ⟨#[.int .i64 n, undef, undef, undef, undef, undef, undef, undef, undef, undef, undef, undef, undef, undef, undef, undef, undef, undef, undef, undef, undef, undef, undef, undef, undef, undef, undef, undef], []⟩ [.code (Try.f9.body.getD .skip)] := by
  simp [Frame.enter, Frame.at, Try.func9, base, Try.f9]
  try rfl

/-- j ids are in the row -/
def NewS (w : World) (n j : Nat) (wr : World) : Prop :=
  Below w.heap.size w wr ∧ wr.heap.size = w.heap.size + 2 ∧ wr.heap[w.heap.size]? = some (chanB n (List.range' 1 j) j 0) ∧ wr.heap[w.heap.size + 1]? = some (poolB w.heap.size)

def newA (n z j : Nat) (x5 x18 x19 x20 x21 x22 x23 x24 x25 x26 : Value) : Act := ⟨#[.int .i64 n, undef, .pointer none, .int .i64 0, .pointer (some ⟨z + 1, 0, none⟩), x5, .int .i64 n, .bool false, .bool false, .int .i64 n, .bool false, .bool false, .int .i64 n, .chan (some z), .agg #[.chan (some z)], .pointer (some ⟨z + 1, 0, none⟩), .int .i64 n, .int .i64 j, x18, x19, x20, x21, x22, x23, x24, x25, x26, undef], []⟩
def NewI (n : Nat) (w : World) (m : Nat) (a : Act) (wr : World) : Prop := ∃ j, j + m = n ∧ NewS w n j wr ∧ ∃ x5 x18 x19 x20 x21 x22 x23 x24 x25 x26, a = newA n w.heap.size j x5 x18 x19 x20 x21 x22 x23 x24 x25 x26

set_option maxRecDepth 100000 in
set_option maxHeartbeats 4000000 in
theorem new_ok (n : Nat) (w : World) (h1 : 1 ≤ n) (h2 : n ≤ 4096) :
    Calls Try.prog 9 #[.int .i64 n] w fun e w' => e = .returned (.tuple #[.pointer (some ⟨w.heap.size + 1, 0, none⟩), .int .i64 0]) ∧ NewS w n n w' := by
  have d1 : decide ((n : Int) < 1) = false := by simp; omega
  have d2 : decide (4096 < (n : Int)) = false := by simp; omega
  have hmk := mkChan n h2
  refine calls_of_loneTo fun cs => ?_
  rw [enter9]
  refine LoneTo.goes (n := 100) ?_
  simp only [Try.f9, Option.getD_some]
  repeat (first | s_c stepG_seq | s_c stepG_skip | s_reg | s_c stepG_region_end | s_c stepG_block | s_c stepG_inBlock | s_cond true | s_cond false | s_c stepG_ret' | s_op)
  s_c stepG_loop
  s_stop
  have hw0 : NewS w n 0 ((w.alloc (.chan n #[] false 0 0 false)).alloc (.cells #[.chan (some w.heap.size)] 51)) :=
    ⟨((Below.refl _ w).alloc (Nat.le_refl _) _).alloc (by simp) _, by simp, (Below.heap_alloc _ _ _ (by simp)).trans (heap_alloc_new w _), by
      have := heap_alloc_new (w.alloc (.chan n #[] false 0 0 false)) (.cells #[.chan (some w.heap.size)] 51)
      rw [World.size_alloc] at this; exact this⟩
  generalize (w.alloc (.chan n #[] false 0 0 false)).alloc (.cells #[.chan (some w.heap.size)] 51) = w1 at *
  clear hmk d1 d2
  refine lone_loop (NewI n w) ?_ ?_ n _ _ ⟨0, by omega, hw0, _, _, _, _, _, _, _, _, _, _, rfl⟩
  · rintro m a wr ⟨j, hj, ⟨hb, hz, hc, hp⟩, x5, x18, x19, x20, x21, x22, x23, x24, x25, x26, rfl⟩ hnext
    clear hw0
    have d1 : decide (j < n) = true := by simp; omega
    have c0 := cell_of (i := 0) (v := .chan (some w.heap.size)) hp rfl
    refine LoneTo.goes (n := 100) ?_
    simp only [newA]
    repeat (first | s_c stepG_seq | s_c stepG_skip | s_reg | s_c stepG_region_end | s_c stepG_block | s_c stepG_inBlock | s_cond true | s_cond false | s_c stepG_ret' | s_op)
    s_stop
    have hadd : IntKind.i64.wrap ((j : Int) + 1) = ((j + 1 : Nat) : Int) := (Go.IntWalk.i64_in _ (by omega)).trans (by omega)
    rw [hadd]
    clear hadd
    refine LoneTo.step (step_lone_send_room (c := w.heap.size) (cap := n) (buf := nums (List.range' 1 j)) (s := j) (r := 0) (tm := false) (stepG_comm (cases := #[scase w.heap.size (.int .i64 (j + 1 : Nat)) (.tuple #[])]) (blocking := true) (shape := .send) (w' := wr) rfl rfl (by decide) (by simp [execOp, scase, Act.eval])) hc (by rw [nums_size]; simp; omega)) ?_
    rw [Frame.finish_at, nums_push]
    have hr : List.range' 1 j ++ [j + 1] = List.range' 1 (j + 1) := by
      rw [List.range'_concat]; congr 2; omega
    rw [hr]
    have hb' : Below w.heap.size w (wr.setChan w.heap.size n (nums (List.range' 1 (j + 1))) false (j + 1) 0 false) := below_setChan hb (Nat.le_refl _) _ _ _ _ _ _
    have hs' : NewS w n (j + 1) (wr.setChan w.heap.size n (nums (List.range' 1 (j + 1))) false (j + 1) 0 false) :=
      ⟨hb', (size_setChan ..).trans hz, heap_setChan _ _ _ _ _ _ _ _ (lt_of_some hc), ((Ch.refl [w.heap.size] wr).setChan (by simp) _ _ _ _ _ _).some hp (by simp)⟩
    clear hb' hr hb hz hc hp c0
    generalize wr.setChan w.heap.size n (nums (List.range' 1 (j + 1))) false (j + 1) 0 false = w3 at *
    walk_nrm
    refine LoneTo.goes (n := 100) ?_
    repeat (first | s_c stepG_seq | s_c stepG_skip | s_reg | s_c stepG_region_end | s_c stepG_block | s_c stepG_inBlock | s_cond true | s_cond false | s_c stepG_ret' | s_op)
    have hadd : IntKind.i64.wrap ((j : Int) + 1) = ((j + 1 : Nat) : Int) := (Go.IntWalk.i64_in _ (by omega)).trans (by omega)
    rw [hadd]
    s_c stepG_inLoop
    s_stop
    exact hnext _ _ ⟨j + 1, by omega, hs', _, _, _, _, _, _, _, _, _, _, rfl⟩
  · rintro a wr ⟨j, hj, hs, x5, x18, x19, x20, x21, x22, x23, x24, x25, x26, rfl⟩
    obtain rfl : j = n := by omega
    clear hw0
    refine LoneTo.goes (n := 100) ?_
    simp only [newA]
    repeat (first | s_c stepG_seq | s_c stepG_skip | s_reg | s_c stepG_region_end | s_c stepG_block | s_c stepG_inBlock | s_cond true | s_cond false | s_c stepG_ret' | s_op)
    s_exit
    repeat (first | s_c stepG_seq | s_c stepG_skip | s_reg | s_c stepG_region_end | s_c stepG_block | s_c stepG_inBlock | s_cond true | s_cond false | s_c stepG_ret' | s_op)
    s_stop
    exact LoneTo.done ⟨.returned (.tuple #[.pointer (some ⟨w.heap.size + 1, 0, none⟩), .int .i64 0]), _, rfl, ⟨rfl, hs⟩, rfl, rfl, rfl, rfl, _, Try.func9, by simp [results, Try.f9, Frame.at]⟩
end Go.Proofs.Ytppakcijcjgoiaa
