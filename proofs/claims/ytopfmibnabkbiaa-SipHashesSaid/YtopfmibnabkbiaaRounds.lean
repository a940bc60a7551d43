/-
  The walks of sip's rounds and take: the four numbers in their block become those of the document's round.
-/
import Derived.Test.YtopfmibnabkbiaaBase
import Derived.StillTailTactics
import Derived.Deep.RegionWith
namespace Go.Proofs.Ytopfmibnabkbiaa
open Go.RowKit
set_option linter.unusedVariables false

/-- the four numbers in block b, which alone has turned -/
structure St (b : Nat) (w0 w : World) (x0 x1 x2 x3 : UInt64) : Prop where
  c0 : w.cell? ⟨b, 0, none⟩ = some (.int .u64 (nu x0))
  c1 : w.cell? ⟨b, 1, none⟩ = some (.int .u64 (nu x1))
  c2 : w.cell? ⟨b, 2, none⟩ = some (.int .u64 (nu x2))
  c3 : w.cell? ⟨b, 3, none⟩ = some (.int .u64 (nu x3))
  f0 : w.frozen? ⟨b, 0, none⟩ = false
  f1 : w.frozen? ⟨b, 1, none⟩ = false
  f2 : w.frozen? ⟨b, 2, none⟩ = false
  f3 : w.frozen? ⟨b, 3, none⟩ = false
  own : w0.grownBy w (some b)

theorem only_set {a w : World} {g : Nat} (h : a.grownBy w (some g)) (i : Nat) (u : Value) : a.grownBy ((w.setCell ⟨g, i, none⟩ u).drew) (some g) :=
  ⟨h.os, h.tape, h.output, by have := h.size; simpa [World.setCell] using this, fun j hj hne => (Below.heap_setCell w ⟨g, i, none⟩ u j (by rintro rfl; exact hne rfl)).trans (h.block j hj hne)⟩

section
variable {b : Nat} {w0 w : World} {x0 x1 x2 x3 : UInt64}
theorem St.set0 (h : St b w0 w x0 x1 x2 x3) (y : UInt64) : St b w0 ((w.setCell ⟨b, 0, none⟩ (.int .u64 (nu y))).drew) y x1 x2 x3 := by
  obtain ⟨c0, c1, c2, c3, f0, f1, f2, f3, own⟩ := h
  exact ⟨by go_simp, by go_simp, by go_simp, by go_simp, by go_simp, by go_simp, by go_simp, by go_simp, only_set own _ _⟩
theorem St.set1 (h : St b w0 w x0 x1 x2 x3) (y : UInt64) : St b w0 ((w.setCell ⟨b, 1, none⟩ (.int .u64 (nu y))).drew) x0 y x2 x3 := by
  obtain ⟨c0, c1, c2, c3, f0, f1, f2, f3, own⟩ := h
  exact ⟨by go_simp, by go_simp, by go_simp, by go_simp, by go_simp, by go_simp, by go_simp, by go_simp, only_set own _ _⟩
theorem St.set2 (h : St b w0 w x0 x1 x2 x3) (y : UInt64) : St b w0 ((w.setCell ⟨b, 2, none⟩ (.int .u64 (nu y))).drew) x0 x1 y x3 := by
  obtain ⟨c0, c1, c2, c3, f0, f1, f2, f3, own⟩ := h
  exact ⟨by go_simp, by go_simp, by go_simp, by go_simp, by go_simp, by go_simp, by go_simp, by go_simp, only_set own _ _⟩
theorem St.set3 (h : St b w0 w x0 x1 x2 x3) (y : UInt64) : St b w0 ((w.setCell ⟨b, 3, none⟩ (.int .u64 (nu y))).drew) x0 x1 x2 y := by
  obtain ⟨c0, c1, c2, c3, f0, f1, f2, f3, own⟩ := h
  exact ⟨by go_simp, by go_simp, by go_simp, by go_simp, by go_simp, by go_simp, by go_simp, by go_simp, only_set own _ _⟩
end

attribute [local go_sem] add_nu xor_nu

theorem s13 (x : UInt64) (w : World) : Calls Try.prog 17 #[.int .u64 (nu x), .int .i64 13] w fun e w' => e = .returned (.int .u64 (nu (rot x 13))) ∧ w' = w := (rot13 x w).mono fun _ _ ⟨a, b⟩ => ⟨a, b.symm⟩
theorem s16 (x : UInt64) (w : World) : Calls Try.prog 17 #[.int .u64 (nu x), .int .i64 16] w fun e w' => e = .returned (.int .u64 (nu (rot x 16))) ∧ w' = w := (rot16 x w).mono fun _ _ ⟨a, b⟩ => ⟨a, b.symm⟩
theorem s17 (x : UInt64) (w : World) : Calls Try.prog 17 #[.int .u64 (nu x), .int .i64 17] w fun e w' => e = .returned (.int .u64 (nu (rot x 17))) ∧ w' = w := (rot17 x w).mono fun _ _ ⟨a, b⟩ => ⟨a, b.symm⟩
theorem s21 (x : UInt64) (w : World) : Calls Try.prog 17 #[.int .u64 (nu x), .int .i64 21] w fun e w' => e = .returned (.int .u64 (nu (rot x 21))) ∧ w' = w := (rot21 x w).mono fun _ _ ⟨a, b⟩ => ⟨a, b.symm⟩
theorem s32 (x : UInt64) (w : World) : Calls Try.prog 17 #[.int .u64 (nu x), .int .i64 32] w fun e w' => e = .returned (.int .u64 (nu (rot x 32))) ∧ w' = w := (rot32 x w).mono fun _ _ ⟨a, b⟩ => ⟨a, b.symm⟩

/-- the document's round -/
structure S4 where
  v0 : UInt64
  v1 : UInt64
  v2 : UInt64
  v3 : UInt64
def rnd (s : S4) : S4 :=
  let y1 := s.v0 + s.v1
  let y2 := rot s.v1 13 ^^^ y1
  let y3 := rot y1 32
  let y4 := s.v2 + s.v3
  let y5 := rot s.v3 16 ^^^ y4
  let y6 := y3 + y5
  let y7 := rot y5 21 ^^^ y6
  let y8 := y4 + y2
  let y9 := rot y2 17 ^^^ y8
  let y10 := rot y8 32
  ⟨y6, y9, y10, y7⟩
def rnds : Nat → S4 → S4
  | 0, s => s
  | n + 1, s => rnd (rnds n s)
def StS (b : Nat) (w0 w : World) (s : S4) : Prop := St b w0 w s.v0 s.v1 s.v2 s.v3

set_option maxRecDepth 100000 in
set_option maxHeartbeats 4000000 in
theorem rounds_any (b n : Nat) (s : S4) (w0 w : World) (h : StS b w0 w s) (hn : n ≤ 100) :
    Calls Try.prog 15 #[.pointer (some ⟨b, 0, none⟩), .int .i64 n] w fun e w' => e = .returned (.tuple #[]) ∧ StS b w0 w' (rnds n s) := by
  go_enter Try.func15, Try.ntmps15
  go_wp2
  go_loopw [5] (fun i wr => ∃ k : Nat, i = .int .i64 k ∧ k ≤ n ∧ StS b w0 wr (rnds k s)) (fun i _ => n - (intOf i).toNat)
  case atStart => exact ⟨0, rfl, by omega, h⟩
  case round =>
    obtain ⟨k, rfl, hk, h⟩ := hrel
    by_cases hlt : k < n
    · have e : rnds (k + 1) s = rnd (rnds k s) := rfl
      have E := Lib.hid e
      clear e
      generalize rnds k s = z at h E
      obtain ⟨x0, x1, x2, x3⟩ := z
      have H : Hid (St b w0 wr x0 x1 x2 x3) := h
      clear h
      obtain ⟨W0, rfl⟩ : ∃ W : World, W = wr := ⟨_, rfl⟩
      have ⟨c0, c1, c2, c3, f0, f1, f2, f3, _⟩ := H.out
      go_wp2
      -- step 1
      refine wp_region_still_tail 11 (by kernel_rfl) (by kernel_rfl) ?_
      simp only [List.take_succ_cons, List.take_zero, List.drop_succ_cons, List.drop_zero]
      repeat still_step
      try refine wpStill_nil ?_
      go_wp2
      have K1 := Lib.hid (H.out.set0 (x0 + x1))
      generalize (W0.setCell ⟨b, 0, none⟩ (.int .u64 (nu (x0 + x1)))).drew = W1 at K1 ⊢
      clear H c0 c1 c2 c3 f0 f1 f2 f3
      have ⟨c0, c1, c2, c3, f0, f1, f2, f3, _⟩ := K1.out
      generalize hy1 : (x0 + x1) = y1 at K1 c0 ⊢
      have Y1 := Lib.hid hy1
      clear hy1
      -- step 2
      refine wp_region_still_tail 13 (by kernel_rfl) (by kernel_rfl) ?_
      simp only [List.take_succ_cons, List.take_zero, List.drop_succ_cons, List.drop_zero]
      repeat still_step
      still_call s13 _ _
      repeat still_step
      try refine wpStill_nil ?_
      go_wp2
      have K2 := Lib.hid (K1.out.set1 (rot x1 13 ^^^ y1))
      generalize (W1.setCell ⟨b, 1, none⟩ (.int .u64 (nu (rot x1 13 ^^^ y1)))).drew = W2 at K2 ⊢
      clear K1 c0 c1 c2 c3 f0 f1 f2 f3
      have ⟨c0, c1, c2, c3, f0, f1, f2, f3, _⟩ := K2.out
      generalize hy2 : (rot x1 13 ^^^ y1) = y2 at K2 c1 ⊢
      have Y2 := Lib.hid hy2
      clear hy2
      -- step 3
      refine wp_region_still_tail 8 (by kernel_rfl) (by kernel_rfl) ?_
      simp only [List.take_succ_cons, List.take_zero, List.drop_succ_cons, List.drop_zero]
      repeat still_step
      still_call s32 _ _
      repeat still_step
      try refine wpStill_nil ?_
      go_wp2
      have K3 := Lib.hid (K2.out.set0 (rot y1 32))
      generalize (W2.setCell ⟨b, 0, none⟩ (.int .u64 (nu (rot y1 32)))).drew = W3 at K3 ⊢
      clear K2 c0 c1 c2 c3 f0 f1 f2 f3
      have ⟨c0, c1, c2, c3, f0, f1, f2, f3, _⟩ := K3.out
      generalize hy3 : (rot y1 32) = y3 at K3 c0 ⊢
      have Y3 := Lib.hid hy3
      clear hy3
      -- step 4
      refine wp_region_still_tail 11 (by kernel_rfl) (by kernel_rfl) ?_
      simp only [List.take_succ_cons, List.take_zero, List.drop_succ_cons, List.drop_zero]
      repeat still_step
      try refine wpStill_nil ?_
      go_wp2
      have K4 := Lib.hid (K3.out.set2 (x2 + x3))
      generalize (W3.setCell ⟨b, 2, none⟩ (.int .u64 (nu (x2 + x3)))).drew = W4 at K4 ⊢
      clear K3 c0 c1 c2 c3 f0 f1 f2 f3
      have ⟨c0, c1, c2, c3, f0, f1, f2, f3, _⟩ := K4.out
      generalize hy4 : (x2 + x3) = y4 at K4 c2 ⊢
      have Y4 := Lib.hid hy4
      clear hy4
      -- step 5
      refine wp_region_still_tail 13 (by kernel_rfl) (by kernel_rfl) ?_
      simp only [List.take_succ_cons, List.take_zero, List.drop_succ_cons, List.drop_zero]
      repeat still_step
      still_call s16 _ _
      repeat still_step
      try refine wpStill_nil ?_
      go_wp2
      have K5 := Lib.hid (K4.out.set3 (rot x3 16 ^^^ y4))
      generalize (W4.setCell ⟨b, 3, none⟩ (.int .u64 (nu (rot x3 16 ^^^ y4)))).drew = W5 at K5 ⊢
      clear K4 c0 c1 c2 c3 f0 f1 f2 f3
      have ⟨c0, c1, c2, c3, f0, f1, f2, f3, _⟩ := K5.out
      generalize hy5 : (rot x3 16 ^^^ y4) = y5 at K5 c3 ⊢
      have Y5 := Lib.hid hy5
      clear hy5
      -- step 6
      refine wp_region_still_tail 11 (by kernel_rfl) (by kernel_rfl) ?_
      simp only [List.take_succ_cons, List.take_zero, List.drop_succ_cons, List.drop_zero]
      repeat still_step
      try refine wpStill_nil ?_
      go_wp2
      have K6 := Lib.hid (K5.out.set0 (y3 + y5))
      generalize (W5.setCell ⟨b, 0, none⟩ (.int .u64 (nu (y3 + y5)))).drew = W6 at K6 ⊢
      clear K5 c0 c1 c2 c3 f0 f1 f2 f3
      have ⟨c0, c1, c2, c3, f0, f1, f2, f3, _⟩ := K6.out
      generalize hy6 : (y3 + y5) = y6 at K6 c0 ⊢
      have Y6 := Lib.hid hy6
      clear hy6
      -- step 7
      refine wp_region_still_tail 13 (by kernel_rfl) (by kernel_rfl) ?_
      simp only [List.take_succ_cons, List.take_zero, List.drop_succ_cons, List.drop_zero]
      repeat still_step
      still_call s21 _ _
      repeat still_step
      try refine wpStill_nil ?_
      go_wp2
      have K7 := Lib.hid (K6.out.set3 (rot y5 21 ^^^ y6))
      generalize (W6.setCell ⟨b, 3, none⟩ (.int .u64 (nu (rot y5 21 ^^^ y6)))).drew = W7 at K7 ⊢
      clear K6 c0 c1 c2 c3 f0 f1 f2 f3
      have ⟨c0, c1, c2, c3, f0, f1, f2, f3, _⟩ := K7.out
      generalize hy7 : (rot y5 21 ^^^ y6) = y7 at K7 c3 ⊢
      have Y7 := Lib.hid hy7
      clear hy7
      -- step 8
      refine wp_region_still_tail 11 (by kernel_rfl) (by kernel_rfl) ?_
      simp only [List.take_succ_cons, List.take_zero, List.drop_succ_cons, List.drop_zero]
      repeat still_step
      try refine wpStill_nil ?_
      go_wp2
      have K8 := Lib.hid (K7.out.set2 (y4 + y2))
      generalize (W7.setCell ⟨b, 2, none⟩ (.int .u64 (nu (y4 + y2)))).drew = W8 at K8 ⊢
      clear K7 c0 c1 c2 c3 f0 f1 f2 f3
      have ⟨c0, c1, c2, c3, f0, f1, f2, f3, _⟩ := K8.out
      generalize hy8 : (y4 + y2) = y8 at K8 c2 ⊢
      have Y8 := Lib.hid hy8
      clear hy8
      -- step 9
      refine wp_region_still_tail 13 (by kernel_rfl) (by kernel_rfl) ?_
      simp only [List.take_succ_cons, List.take_zero, List.drop_succ_cons, List.drop_zero]
      repeat still_step
      still_call s17 _ _
      repeat still_step
      try refine wpStill_nil ?_
      go_wp2
      have K9 := Lib.hid (K8.out.set1 (rot y2 17 ^^^ y8))
      generalize (W8.setCell ⟨b, 1, none⟩ (.int .u64 (nu (rot y2 17 ^^^ y8)))).drew = W9 at K9 ⊢
      clear K8 c0 c1 c2 c3 f0 f1 f2 f3
      have ⟨c0, c1, c2, c3, f0, f1, f2, f3, _⟩ := K9.out
      generalize hy9 : (rot y2 17 ^^^ y8) = y9 at K9 c1 ⊢
      have Y9 := Lib.hid hy9
      clear hy9
      -- step 10
      refine wp_region_still_tail 8 (by kernel_rfl) (by kernel_rfl) ?_
      simp only [List.take_succ_cons, List.take_zero, List.drop_succ_cons, List.drop_zero]
      repeat still_step
      still_call s32 _ _
      repeat still_step
      try refine wpStill_nil ?_
      go_wp2
      have K10 := Lib.hid (K9.out.set2 (rot y8 32))
      generalize (W9.setCell ⟨b, 2, none⟩ (.int .u64 (nu (rot y8 32)))).drew = W10 at K10 ⊢
      clear K9 c0 c1 c2 c3 f0 f1 f2 f3
      have ⟨c0, c1, c2, c3, f0, f1, f2, f3, _⟩ := K10.out
      generalize hy10 : (rot y8 32) = y10 at K10 c2 ⊢
      have Y10 := Lib.hid hy10
      clear hy10

      go_roundw
      case rel =>
        refine ⟨k + 1, by go_num, by omega, ?_⟩
        rw [E.out]
        have hh := K10.out
        rw [← Y10.out, ← Y9.out, ← Y8.out, ← Y7.out, ← Y6.out, ← Y5.out, ← Y4.out, ← Y3.out, ← Y2.out, ← Y1.out] at hh
        exact hh
      case measure => simp [intOf]; omega
    · have hkn : k = n := by omega
      subst hkn
      go_wp2
      go_end0
      exact ⟨rfl, h⟩

end Go.Proofs.Ytopfmibnabkbiaa
