/-
  The walks of awake and of SipSums.
-/
import Derived.Test.YtopfmibnabkbiaaOf
import Derived.Deep.RegionHeld3
namespace Go.Proofs.Ytopfmibnabkbiaa
open Go.RowKit
set_option linter.unusedVariables false
attribute [local irreducible] le

theorem bcell {W w1 : World} (hb : Below W.heap.size W w1) : (∀ b o, b < W.heap.size → w1.cell? ⟨b, o, none⟩ = W.cell? ⟨b, o, none⟩) ∧ (∀ b o, b < W.heap.size → w1.frozen? ⟨b, o, none⟩ = W.frozen? ⟨b, o, none⟩) :=
  ⟨fun b o h => hb.cell (p := ⟨b, o, none⟩) h, fun b o h => hb.frozen (p := ⟨b, o, none⟩) h⟩

def exL : List UInt8 := [0, 1, 2, 3, 4, 5, 6, 7, 8, 9, 10, 11, 12, 13, 14, 15]

set_option maxRecDepth 100000 in
set_option maxHeartbeats 400000 in
theorem awake_any (w : World) : Calls Try.prog 7 #[] w fun e w' => e = .returned (.bool true) ∧ Below w.heap.size w w' := by
  have hof := of_16 w.heap.size 0 16 exL (w.alloc (.cells (exL.map (fun b => Value.int .u8 (b.toNat : Int))).toArray 5)) (by simp) rfl (by omega) (fun j hj => by
    rw [Nat.zero_add, World.cell?_alloc_mark]
    simp [hj])
  have hex : nu (sumS (wv (bytesOf (exL.take 8))) (wv (bytesOf (exL.drop 8))) [0, 1, 2, 3, 4, 5, 6, 7, 8, 9, 10, 11, 12, 13, 14]) = 11613035633349379557 := by
    rw [nu_eq]; decide +kernel
  have HO := Lib.hid hof
  have HE := Lib.hid hex
  clear hof hex
  generalize wv (bytesOf (exL.take 8)) = k0 at *
  generalize wv (bytesOf (exL.drop 8)) = k1 at *
  go_enter Try.func7, Try.ntmps7
  go_wp2_with fail
  refine (HO.out).mono ?_
  rintro e w1 ⟨rfl, hb1⟩
  unfold keyV
  have hb0 : Below w.heap.size w w1 := ((Below.refl _ _).alloc (Nat.le_refl _) _).trans (hb1.mono (by simp))
  clear HO hb1
  go_wp2_with fail
  refine (sum_any k0 k1 ⟨#[0, 1, 2, 3, 4, 5, 6, 7, 8, 9, 10, 11, 12, 13, 14]⟩ _ (by decide)).mono ?_
  rintro e w2 ⟨rfl, hb2⟩
  have e1 : (ByteArray.mk #[0, 1, 2, 3, 4, 5, 6, 7, 8, 9, 10, 11, 12, 13, 14]).data.toList = [0, 1, 2, 3, 4, 5, 6, 7, 8, 9, 10, 11, 12, 13, 14] := rfl
  rw [e1, HE.out]
  go_wp2
  go_ret
  exact ⟨rfl, (hb0.alloc hb0.size _).trans (hb2.mono (by have := hb0.size; simp; omega))⟩

def fewB (s : ByteArray) (n : Nat) : ByteArray := s.extract 0 (min s.size n)
theorem fewB_size (s : ByteArray) (n : Nat) : (fewB s n).size ≤ n := by
  unfold fewB; rw [ByteArray.size_extract]; omega

theorem sumX (B : Nat) (k0 k1 : UInt64) (s : ByteArray) (W : World) (hs : s.size ≤ 1000)
    (h : W.cell? ⟨B, 0, none⟩ = some (.int .u64 (nu k0)) ∧ W.cell? ⟨B, 1, none⟩ = some (.int .u64 (nu k1)) ∧ B < W.heap.size) :
    Calls Try.prog 8 #[.agg #[.int .u64 (nu k0), .int .u64 (nu k1)], .string s] W fun e w' => e = .returned (.int .u64 (nu (sumS k0 k1 s.data.toList))) ∧
      (w'.cell? ⟨B, 0, none⟩ = some (.int .u64 (nu k0)) ∧ w'.cell? ⟨B, 1, none⟩ = some (.int .u64 (nu k1)) ∧ B < w'.heap.size) ∧ Below W.heap.size W w' :=
  (sum_any k0 k1 s W hs).mono fun _ _ ⟨he, hb⟩ => ⟨he, ⟨(hb.cell (by exact h.2.2)).trans h.1, (hb.cell (by exact h.2.2)).trans h.2.1, Nat.lt_of_lt_of_le h.2.2 hb.size⟩, hb⟩
theorem rsumX (B : Nat) (k0 k1 : UInt64) (s : ByteArray) (W : World) (hs : s.size ≤ 1000)
    (h : W.cell? ⟨B, 0, none⟩ = some (.int .u64 (nu k0)) ∧ W.cell? ⟨B, 1, none⟩ = some (.int .u64 (nu k1)) ∧ B < W.heap.size) :
    Calls Try.prog 9 #[.int .u64 (nu k0), .int .u64 (nu k1), .string s] W fun e w' => e = .returned (.int .u64 (nu (sumS k0 k1 s.data.toList))) ∧
      (w'.cell? ⟨B, 0, none⟩ = some (.int .u64 (nu k0)) ∧ w'.cell? ⟨B, 1, none⟩ = some (.int .u64 (nu k1)) ∧ B < w'.heap.size) ∧ Below W.heap.size W w' :=
  (rsum_any k0 k1 s W hs).mono fun _ _ ⟨he, hb⟩ => ⟨he, ⟨(hb.cell (by exact h.2.2)).trans h.1, (hb.cell (by exact h.2.2)).trans h.2.1, Nat.lt_of_lt_of_le h.2.2 hb.size⟩, hb⟩

set_option maxRecDepth 100000 in
set_option maxHeartbeats 1000000 in
theorem sums_walk (k0 k1 : UInt64) (s : ByteArray) (w : World) :
    Calls Try.prog 3 #[.agg #[.int .u64 (nu k0), .int .u64 (nu k1)], .string s] w fun e w' => e = .returned (.bool true) ∧ Below w.heap.size w w' := by
  by_cases h6 : 600 < s.size
  · have hz : (s.extract 0 600).size ≤ 1000 := by rw [ByteArray.size_extract]; omega
    have hbel : Below w.heap.size w (w.alloc (.cells #[.int .u64 (nu k0), .int .u64 (nu k1)] 24)) := (Below.refl _ _).alloc (Nat.le_refl _) _
    have hsz : w.heap.size < (w.alloc (.cells #[.int .u64 (nu k0), .int .u64 (nu k1)] 24)).heap.size := by simp
    have c0 : (w.alloc (.cells #[.int .u64 (nu k0), .int .u64 (nu k1)] 24)).cell? ⟨w.heap.size, 0, none⟩ = some (.int .u64 (nu k0)) := by go_simp
    have c1 : (w.alloc (.cells #[.int .u64 (nu k0), .int .u64 (nu k1)] 24)).cell? ⟨w.heap.size, 1, none⟩ = some (.int .u64 (nu k1)) := by go_simp
    go_enter Try.func3, Try.ntmps3
    go_wp2_with fail
    generalize w.alloc (.cells #[.int .u64 (nu k0), .int .u64 (nu k1)] 24) = W1 at *
    refine (awake_any _).mono ?_
    rintro e w2 ⟨rfl, hb2⟩
    have d0 : w2.cell? ⟨w.heap.size, 0, none⟩ = some (.int .u64 (nu k0)) := (hb2.cell (by exact hsz)).trans c0
    have d1 : w2.cell? ⟨w.heap.size, 1, none⟩ = some (.int .u64 (nu k1)) := (hb2.cell (by exact hsz)).trans c1
    have dz : w.heap.size < w2.heap.size := Nat.lt_of_lt_of_le hsz hb2.size
    have db := hbel.trans (hb2.mono hbel.size)
    clear c0 c1 hsz hb2 hbel
    go_wp2_with fail
    go_region_held3 (fun w' => w'.cell? ⟨w.heap.size, 0, none⟩ = some (.int .u64 (nu k0)) ∧ w'.cell? ⟨w.heap.size, 1, none⟩ = some (.int .u64 (nu k1)) ∧ w.heap.size < w'.heap.size)
      (go_keep)
      (first
        | (go_at_call 8; refine (sumX w.heap.size k0 k1 (s.extract 0 600) _ hz ?_).mono ?_; (simp [*]); rintro e w3 ⟨rfl, ⟨d30, d31, dz3⟩, hb3⟩)
        | (go_at_call 9; refine (rsumX w.heap.size k0 k1 (s.extract 0 600) _ hz ?_).mono ?_; (simp [*]); rintro e w4 ⟨rfl, ⟨d40, d41, dz4⟩, hb4⟩))
    go_wp2
    go_ret
    exact ⟨ret_bool (by simp), (db.drew.trans (hb3.mono db.size)).trans (hb4.mono (Nat.le_trans db.size hb3.size))⟩
  · have hz : s.size ≤ 1000 := by omega
    have hbel : Below w.heap.size w (w.alloc (.cells #[.int .u64 (nu k0), .int .u64 (nu k1)] 24)) := (Below.refl _ _).alloc (Nat.le_refl _) _
    have hsz : w.heap.size < (w.alloc (.cells #[.int .u64 (nu k0), .int .u64 (nu k1)] 24)).heap.size := by simp
    have c0 : (w.alloc (.cells #[.int .u64 (nu k0), .int .u64 (nu k1)] 24)).cell? ⟨w.heap.size, 0, none⟩ = some (.int .u64 (nu k0)) := by go_simp
    have c1 : (w.alloc (.cells #[.int .u64 (nu k0), .int .u64 (nu k1)] 24)).cell? ⟨w.heap.size, 1, none⟩ = some (.int .u64 (nu k1)) := by go_simp
    go_enter Try.func3, Try.ntmps3
    go_wp2_with fail
    generalize w.alloc (.cells #[.int .u64 (nu k0), .int .u64 (nu k1)] 24) = W1 at *
    refine (awake_any _).mono ?_
    rintro e w2 ⟨rfl, hb2⟩
    have d0 : w2.cell? ⟨w.heap.size, 0, none⟩ = some (.int .u64 (nu k0)) := (hb2.cell (by exact hsz)).trans c0
    have d1 : w2.cell? ⟨w.heap.size, 1, none⟩ = some (.int .u64 (nu k1)) := (hb2.cell (by exact hsz)).trans c1
    have dz : w.heap.size < w2.heap.size := Nat.lt_of_lt_of_le hsz hb2.size
    have db := hbel.trans (hb2.mono hbel.size)
    clear c0 c1 hsz hb2 hbel
    go_wp2_with fail
    go_region_held3 (fun w' => w'.cell? ⟨w.heap.size, 0, none⟩ = some (.int .u64 (nu k0)) ∧ w'.cell? ⟨w.heap.size, 1, none⟩ = some (.int .u64 (nu k1)) ∧ w.heap.size < w'.heap.size)
      (go_keep)
      (first
        | (go_at_call 8; refine (sumX w.heap.size k0 k1 s _ hz ?_).mono ?_; (simp [*]); rintro e w3 ⟨rfl, ⟨d30, d31, dz3⟩, hb3⟩)
        | (go_at_call 9; refine (rsumX w.heap.size k0 k1 s _ hz ?_).mono ?_; (simp [*]); rintro e w4 ⟨rfl, ⟨d40, d41, dz4⟩, hb4⟩))
    go_wp2
    go_ret
    exact ⟨ret_bool (by simp), (db.drew.trans (hb3.mono db.size)).trans (hb4.mono (Nat.le_trans db.size hb3.size))⟩

end Go.Proofs.Ytopfmibnabkbiaa
