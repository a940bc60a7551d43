/-
  The walks of take, of the reference's round, and of word.
-/
import Derived.Test.YtopfmibnabkbiaaRounds
import Derived.Lib.Strings
namespace Go.Proofs.Ytopfmibnabkbiaa
open Go.RowKit
set_option linter.unusedVariables false
attribute [local go_sem] add_nu xor_nu

/-- a number more -/
def tk (m : UInt64) (s : S4) : S4 :=
  let t := rnds 2 ⟨s.v0, s.v1, s.v2, s.v3 ^^^ m⟩
  ⟨t.v0 ^^^ m, t.v1, t.v2, t.v3⟩

set_option maxRecDepth 100000 in
set_option maxHeartbeats 1000000 in
theorem take_any (b : Nat) (m : UInt64) (s : S4) (w0 w : World) (h : StS b w0 w s) :
    Calls Try.prog 13 #[.pointer (some ⟨b, 0, none⟩), .int .u64 (nu m)] w fun e w' => e = .returned (.tuple #[]) ∧ StS b w0 w' (tk m s) := by
  obtain ⟨x0, x1, x2, x3⟩ := s
  have H : Hid (St b w0 w x0 x1 x2 x3) := h
  clear h
  obtain ⟨W0, rfl⟩ : ∃ W : World, W = w := ⟨_, rfl⟩
  have ⟨c0, c1, c2, c3, f0, f1, f2, f3, _⟩ := H.out
  go_enter Try.func13, Try.ntmps13
  go_wp2_with fail
  refine wp_region_still_tail 8 (by kernel_rfl) (by kernel_rfl) ?_
  simp only [List.take_succ_cons, List.take_zero, List.drop_succ_cons, List.drop_zero]
  repeat still_step
  try refine wpStill_nil ?_
  go_wp2_with fail
  have K := Lib.hid (H.out.set3 (x3 ^^^ m))
  generalize (W0.setCell ⟨b, 3, none⟩ (.int .u64 (nu (x3 ^^^ m)))).drew = W1 at K ⊢
  clear H c0 c1 c2 c3 f0 f1 f2 f3
  refine (rounds_any b 2 ⟨x0, x1, x2, x3 ^^^ m⟩ w0 W1 K.out (by omega)).mono ?_
  have e : tk m ⟨x0, x1, x2, x3⟩ = ⟨(rnds 2 ⟨x0, x1, x2, x3 ^^^ m⟩).v0 ^^^ m, (rnds 2 ⟨x0, x1, x2, x3 ^^^ m⟩).v1, (rnds 2 ⟨x0, x1, x2, x3 ^^^ m⟩).v2, (rnds 2 ⟨x0, x1, x2, x3 ^^^ m⟩).v3⟩ := rfl
  have E := Lib.hid e
  clear e
  generalize rnds 2 ⟨x0, x1, x2, x3 ^^^ m⟩ = z at E ⊢
  rintro e W2 ⟨rfl, h⟩
  obtain ⟨z0, z1, z2, z3⟩ := z
  have H : Hid (St b w0 W2 z0 z1 z2 z3) := h
  clear h K
  have ⟨c0, c1, c2, c3, f0, f1, f2, f3, _⟩ := H.out
  go_wp2_with fail
  refine wp_region_still_tail 8 (by kernel_rfl) (by kernel_rfl) ?_
  simp only [List.take_succ_cons, List.take_zero, List.drop_succ_cons, List.drop_zero]
  repeat still_step
  try refine wpStill_nil ?_
  go_wp2
  go_end0
  refine ⟨rfl, ?_⟩
  rw [E.out]
  exact H.out.set0 (z0 ^^^ m)

theorem t13 (x : UInt64) (w : World) : Calls Try.prog 18 #[.int .u64 (nu x), .int .i64 13] w fun e w' => e = .returned (.int .u64 (nu (rot x 13))) ∧ w = w' := turn_any x 13 w (by decide)
theorem t16 (x : UInt64) (w : World) : Calls Try.prog 18 #[.int .u64 (nu x), .int .i64 16] w fun e w' => e = .returned (.int .u64 (nu (rot x 16))) ∧ w = w' := turn_any x 16 w (by decide)
theorem t17 (x : UInt64) (w : World) : Calls Try.prog 18 #[.int .u64 (nu x), .int .i64 17] w fun e w' => e = .returned (.int .u64 (nu (rot x 17))) ∧ w = w' := turn_any x 17 w (by decide)
theorem t21 (x : UInt64) (w : World) : Calls Try.prog 18 #[.int .u64 (nu x), .int .i64 21] w fun e w' => e = .returned (.int .u64 (nu (rot x 21))) ∧ w = w' := turn_any x 21 w (by decide)
theorem t32 (x : UInt64) (w : World) : Calls Try.prog 18 #[.int .u64 (nu x), .int .i64 32] w fun e w' => e = .returned (.int .u64 (nu (rot x 32))) ∧ w = w' := turn_any x 32 w (by decide)

theorem below_drewN {B : Nat} {a w : World} (h : Below B a w) (n : Nat) : Below B a (w.drewN n) := ⟨h.os, h.tape, h.output, h.size, h.block⟩
def aggS (s : S4) : Value := .agg #[.int .u64 (nu s.v0), .int .u64 (nu s.v1), .int .u64 (nu s.v2), .int .u64 (nu s.v3)]

set_option maxRecDepth 100000 in
set_option maxHeartbeats 1000000 in
/-- the reference's round -/
theorem rround_any (x0 x1 x2 x3 : UInt64) (w : World) :
    Calls Try.prog 16 #[.agg #[.int .u64 (nu x0), .int .u64 (nu x1), .int .u64 (nu x2), .int .u64 (nu x3)]] w fun e w' =>
      e = .returned (.agg #[.int .u64 (nu (rnd ⟨x0, x1, x2, x3⟩).v0), .int .u64 (nu (rnd ⟨x0, x1, x2, x3⟩).v1), .int .u64 (nu (rnd ⟨x0, x1, x2, x3⟩).v2), .int .u64 (nu (rnd ⟨x0, x1, x2, x3⟩).v3)]) ∧ Below w.heap.size w w' := by
  go_enter Try.func16, Try.ntmps16
  go_wp2_with fail
  go_quiet (fail)
  go_wp2_with fail
  refine (t13 _ _).mono ?_
  rintro e w1 ⟨rfl, rfl⟩
  go_wp2_with fail
  refine (t32 _ _).mono ?_
  rintro e w1 ⟨rfl, rfl⟩
  go_wp2_with fail
  refine (t16 _ _).mono ?_
  rintro e w1 ⟨rfl, rfl⟩
  go_wp2_with fail
  refine (t21 _ _).mono ?_
  rintro e w1 ⟨rfl, rfl⟩
  go_wp2_with fail
  refine (t17 _ _).mono ?_
  rintro e w1 ⟨rfl, rfl⟩
  go_wp2_with fail
  refine (t32 _ _).mono ?_
  rintro e w1 ⟨rfl, rfl⟩
  go_wp2
  refine bodyPost_ret (v := aggS (rnd ⟨x0, x1, x2, x3⟩)) ?_ rfl ⟨rfl, ?_⟩
  · simp [results, Try.results16, go_sem]
    rfl
  · have hb := below_drewN (((Below.refl w.heap.size w).alloc (Nat.le_refl _) (Obj.cells #[.int .u64 (nu x0), .int .u64 (nu x1), .int .u64 (nu x2), .int .u64 (nu x3)] 41)).alloc (by simp) (Obj.cells #[.int .u64 0, .int .u64 0, .int .u64 0, .int .u64 0] 41)) nq
    exact (((hb.setCell (Nat.le_succ _) _).setCell (Nat.le_succ _) _).setCell (Nat.le_succ _) _).setCell (Nat.le_succ _) _

/-! word: a number of up to eight bytes -/
/-- the lowest byte first -/
def le : List UInt8 → Nat
  | [] => 0
  | c :: t => c.toNat + 256 * le t
theorem le_lt (l : List UInt8) : le l < 256 ^ l.length := by
  induction l with
  | nil => simp [le]
  | cons c t ih =>
    have := c.toNat_lt
    simp only [le, List.length_cons, Nat.pow_succ]
    omega

end Go.Proofs.Ytopfmibnabkbiaa
