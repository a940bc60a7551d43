/-
  The walks of Of, Full, Hash and awake.
-/
import Derived.Test.YtopfmibnabkbiaaRSum
import Derived.Laws.IdiomStrings
import Derived.WideShapes
namespace Go.Proofs.Ytopfmibnabkbiaa
open Go.RowKit
set_option linter.unusedVariables false
attribute [local irreducible] le
attribute [local go_sem] add_nu xor_nu and_nu

theorem below_refl (w : World) : Below w.heap.size w w := Below.refl _ _
def keyV (k0 k1 : UInt64) : Value := .agg #[.int .u64 (nu k0), .int .u64 (nu k1)]
theorem nu_zero : nu 0 = 0 := by rw [nu_eq]; rfl

set_option maxHeartbeats 400000 in
theorem of_bad (a : Option Addr) (n cap : Nat) (w : World) (h : ((n : Int) != 16) = true) :
    Calls Try.prog 11 #[.slice a n cap] w fun e w' => e = .returned (.tuple #[keyV 0 0, .bool false]) ∧ Below w.heap.size w w' := by
  go_enter Try.func11, Try.ntmps11
  go_wp2
  refine bodyPost_ret (v := .tuple #[keyV 0 0, .bool false]) ?_ rfl ⟨rfl, ?_⟩
  · unfold keyV; rw [nu_zero]
    simp [results, Try.results11, go_sem]
  · exact (Below.refl _ _).alloc (Nat.le_refl _) _

theorem wordS (s : ByteArray) (w : World) (h : s.size ≤ 8) :
    Calls Try.prog 14 #[.string s] w fun e w' => e = .returned (.int .u64 (nu (wv s))) ∧ w' = w := (word_nu s w h).mono fun _ _ ⟨a, b⟩ => ⟨a, b.symm⟩

def bytesOf (l : List UInt8) : ByteArray := ⟨l.toArray⟩

set_option maxRecDepth 100000 in
set_option maxHeartbeats 400000 in
theorem of_16 (b off cap : Nat) (l : List UInt8) (w : World) (hb : b < w.heap.size) (hl : l.length = 16) (hcap : 16 ≤ cap)
    (hc : ∀ j (hj : j < l.length), w.cell? ⟨b, off + j, none⟩ = some (.int .u8 (l[j].toNat : Int))) :
    Calls Try.prog 11 #[.slice (some ⟨b, off, none⟩) 16 cap] w fun e w' => e = .returned (.tuple #[keyV (wv (bytesOf (l.take 8))) (wv (bytesOf (l.drop 8))), .bool true]) ∧ Below w.heap.size w w' := by
  have hc2 : ∀ (W : World), (∀ x, x.block = b → W.cell? x = w.cell? x) → (convert 30 9 (.slice (some ⟨b, off, none⟩) 8 cap)).run Try.prog W = .ok (.string (bytesOf (l.take 8))) W := fun W hW => by
    have := run_convert_bytes_back (P := Try.prog) W 30 9 5 ⟨b, off, none⟩ cap (l.take 8) Try.underlying30 Try.underlying5 Try.underlying9 (fun j hj => by
      rw [WideShapes.add_plain, hW _ rfl]
      have hj' : j < l.length := by rw [List.length_take] at hj; omega
      rw [hc j hj', List.getElem_take])
    rw [List.length_take, hl] at this
    exact this
  have hc3 : ∀ (W : World), (∀ x, x.block = b → W.cell? x = w.cell? x) → (convert 30 9 (.slice (some ⟨b, off + 8, none⟩) 8 (cap - 8))).run Try.prog W = .ok (.string (bytesOf (l.drop 8))) W := fun W hW => by
    have := run_convert_bytes_back (P := Try.prog) W 30 9 5 ⟨b, off + 8, none⟩ (cap - 8) (l.drop 8) Try.underlying30 Try.underlying5 Try.underlying9 (fun j hj => by
      rw [WideShapes.add_plain, hW _ rfl]
      have hj' : 8 + j < l.length := by rw [List.length_drop] at hj; omega
      rw [Nat.add_assoc, hc (8 + j) hj', List.getElem_drop])
    rw [List.length_drop, hl] at this
    exact this
  have hbel : Below w.heap.size w (w.alloc (.cells #[.int .u64 0, .int .u64 0] 24)) := (Below.refl _ _).alloc (Nat.le_refl _) _
  have hW1 : ∀ x : Addr, x.block = b → (w.alloc (.cells #[.int .u64 0, .int .u64 0] 24)).drew.cell? x = w.cell? x := fun x hx => by
    obtain ⟨xb, xo, xs⟩ := x
    subst hx
    exact hbel.cell hb
  have f1 := hc2 _ hW1
  have f2 := hc3 _ hW1
  have c0 : (w.alloc (.cells #[.int .u64 0, .int .u64 0] 24)).cell? ⟨w.heap.size, 0, none⟩ = some (.int .u64 0) := by go_simp
  have c1 : (w.alloc (.cells #[.int .u64 0, .int .u64 0] 24)).cell? ⟨w.heap.size, 1, none⟩ = some (.int .u64 0) := by go_simp
  have g0 : (w.alloc (.cells #[.int .u64 0, .int .u64 0] 24)).frozen? ⟨w.heap.size, 0, none⟩ = false := by go_simp
  have g1 : (w.alloc (.cells #[.int .u64 0, .int .u64 0] 24)).frozen? ⟨w.heap.size, 1, none⟩ = false := by go_simp
  clear hc2 hc3 hW1 hc
  have z1 : (bytesOf (l.take 8)).size ≤ 8 := by rw [← len_list]; simp [bytesOf]; omega
  have z2 : (bytesOf (l.drop 8)).size ≤ 8 := by rw [← len_list]; simp [bytesOf]; omega
  generalize bytesOf (l.take 8) = s1 at *
  generalize bytesOf (l.drop 8) = s2 at *
  clear hl
  have k1 : (8 : Int) ≤ (cap : Int) := by omega
  have k2 : ¬ cap = 8 := by omega
  go_enter Try.func11, Try.ntmps11
  go_wp2_with fail
  generalize w.alloc (.cells #[.int .u64 0, .int .u64 0] 24) = W1 at *
  refine wp_region_still_tail 9 (by kernel_rfl) (by kernel_rfl) ?_
  simp only [List.take_succ_cons, List.take_zero, List.drop_succ_cons, List.drop_zero]
  repeat still_step
  still_call wordS s1 _ z1
  repeat still_step
  still_call wordS s2 _ z2
  repeat still_step
  try refine wpStill_nil ?_
  go_wp2
  refine bodyPost_ret (v := .tuple #[keyV (wv s1) (wv s2), .bool true]) ?_ rfl ⟨rfl, ?_⟩
  · unfold keyV
    simp [results, Try.results11, go_sem, c0, c1]
  · exact ((hbel.setCell (Nat.le_refl _) _).setCell (Nat.le_refl _) _).drew

def hasherV (k0 k1 m : UInt64) : Value := .agg #[.int .u64 (nu k0), .int .u64 (nu k1), .int .u64 (nu m)]
theorem nu_all : nu 18446744073709551615 = 18446744073709551615 := by rw [nu_eq]; rfl

set_option maxHeartbeats 400000 in
theorem full_any (k0 k1 : UInt64) (w : World) :
    Calls Try.prog 12 #[keyV k0 k1] w fun e w' => e = .returned (hasherV k0 k1 18446744073709551615) ∧ Below w.heap.size w w' := by
  unfold keyV
  go_enter Try.func12, Try.ntmps12
  go_wp2
  refine bodyPost_ret (v := hasherV k0 k1 18446744073709551615) ?_ rfl ⟨rfl, ?_⟩
  · unfold hasherV; rw [nu_all]
    simp [results, Try.results12, go_sem]
  · exact ((Below.refl _ _).alloc (Nat.le_refl _) _).alloc (by simp) _

set_option maxHeartbeats 400000 in
theorem hash_any (k0 k1 m : UInt64) (s : ByteArray) (w : World) (hs : s.size ≤ 1000) :
    Calls Try.prog 10 #[hasherV k0 k1 m, .string s] w fun e w' => e = .returned (.int .u64 (nu (sumS k0 k1 s.data.toList &&& m))) ∧ Below w.heap.size w w' := by
  unfold hasherV
  have hbel : Below w.heap.size w (w.alloc (.cells #[.int .u64 (nu k0), .int .u64 (nu k1), .int .u64 (nu m)] 33)) := (Below.refl _ _).alloc (Nat.le_refl _) _
  have hsz : w.heap.size < (w.alloc (.cells #[.int .u64 (nu k0), .int .u64 (nu k1), .int .u64 (nu m)] 33)).heap.size := by simp
  have c0 : (w.alloc (.cells #[.int .u64 (nu k0), .int .u64 (nu k1), .int .u64 (nu m)] 33)).cell? ⟨w.heap.size, 0, none⟩ = some (.int .u64 (nu k0)) := by go_simp
  have c1 : (w.alloc (.cells #[.int .u64 (nu k0), .int .u64 (nu k1), .int .u64 (nu m)] 33)).cell? ⟨w.heap.size, 1, none⟩ = some (.int .u64 (nu k1)) := by go_simp
  have c2 : (w.alloc (.cells #[.int .u64 (nu k0), .int .u64 (nu k1), .int .u64 (nu m)] 33)).cell? ⟨w.heap.size, 2, none⟩ = some (.int .u64 (nu m)) := by go_simp
  go_enter Try.func10, Try.ntmps10
  go_wp2_with fail
  generalize w.alloc (.cells #[.int .u64 (nu k0), .int .u64 (nu k1), .int .u64 (nu m)] 33) = W1 at *
  go_region_with (go_at_call 8; refine (sum_any k0 k1 s _ hs).mono ?_; rintro e w1 ⟨rfl, hb1⟩; have c2' := (hb1.cell (p := ⟨w.heap.size, 2, none⟩) hsz).trans c2)
  all_goals go_wp2
  all_goals go_ret
  all_goals exact ⟨rfl, hbel.drew.trans (hb1.mono hbel.size)⟩

end Go.Proofs.Ytopfmibnabkbiaa
