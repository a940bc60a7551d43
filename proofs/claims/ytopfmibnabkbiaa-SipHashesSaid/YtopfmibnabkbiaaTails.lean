/-
  The walk of SipTails.
-/
import Derived.Test.YtopfmibnabkbiaaSums
namespace Go.Proofs.Ytopfmibnabkbiaa
open Go.RowKit
set_option linter.unusedVariables false
attribute [local irreducible] le

/-- the key's box, in a world behind w -/
def Bx (k0 k1 : UInt64) (w wr : World) : Prop :=
  (wr.cell? ⟨w.heap.size, 0, none⟩ = some (.int .u64 (nu k0)) ∧ wr.cell? ⟨w.heap.size, 1, none⟩ = some (.int .u64 (nu k1)) ∧ w.heap.size < wr.heap.size) ∧ Below w.heap.size w wr

theorem Bx.next {k0 k1 : UInt64} {w wr w' : World} (h : Bx k0 k1 w wr) (hb : Below wr.heap.size wr w') : Bx k0 k1 w w' :=
  ⟨⟨(hb.cell (by exact h.1.2.2)).trans h.1.1, (hb.cell (by exact h.1.2.2)).trans h.1.2.1, Nat.lt_of_lt_of_le h.1.2.2 hb.size⟩, h.2.trans (hb.mono h.2.size)⟩

theorem Bx.drew {k0 k1 : UInt64} {w wr : World} (h : Bx k0 k1 w wr) : Bx k0 k1 w wr.drew := ⟨h.1, h.2.drew⟩
theorem Bx.start (k0 k1 : UInt64) (w : World) : Bx k0 k1 w (w.alloc (.cells #[.int .u64 (nu k0), .int .u64 (nu k1)] 24)) :=
  ⟨⟨by go_simp, by go_simp, by simp⟩, (Below.refl _ _).alloc (Nat.le_refl _) _⟩

/-- string([]byte{v}) -/
def oneB (v : Int) : ByteArray := bytesOf [UInt8.ofNat v.toNat]
theorem oneB_size (v : Int) : (oneB v).size = 1 := rfl
theorem back_one (W : World) (v : Int) (h0 : 0 ≤ v) (h1 : v < 256) :
    (convert 30 9 (.slice (some ⟨W.heap.size, 0, none⟩) 1 1)).run Try.prog (W.alloc (.cells #[.int .u8 v] 5)) = .ok (.string (oneB v)) (W.alloc (.cells #[.int .u8 v] 5)) := by
  refine run_convert_bytes_back (P := Try.prog) _ 30 9 5 ⟨W.heap.size, 0, none⟩ 1 [UInt8.ofNat v.toNat] Try.underlying30 Try.underlying5 Try.underlying9 (fun j hj => ?_)
  obtain rfl : j = 0 := by simpa using hj
  rw [WideShapes.add_plain, Nat.zero_add, World.cell?_alloc_mark]
  have e : (UInt8.ofNat v.toNat).toNat = v.toNat := UInt8.toNat_ofNat_of_lt' (by show v.toNat < 256; omega)
  simp only [List.getElem_cons_zero, e]
  rw [Int.toNat_of_nonneg h0]; rfl

set_option maxRecDepth 100000 in
set_option maxHeartbeats 1000000 in
theorem tails_walk (k0 k1 : UInt64) (c n : Nat) (w : World) (hc : c < 256) (hn : n < 65536) :
    Calls Try.prog 4 #[.agg #[.int .u64 (nu k0), .int .u64 (nu k1)], .int .u8 c, .int .u16 n] w fun e w' => e = .returned (.bool true) ∧ Below w.heap.size w w' := by
  have hbx := Bx.start k0 k1 w
  go_enter Try.func4, Try.ntmps4
  go_wp2_with fail
  generalize w.alloc (.cells #[.int .u64 (nu k0), .int .u64 (nu k1)] 24) = W1 at *
  refine (awake_any _).mono ?_
  rintro e w2 ⟨rfl, hb2⟩
  have hbx2 := hbx.next hb2
  clear hbx hb2
  go_wp2_with fail
  have eN : (n : Int) % 300 = ((n % 300 : Nat) : Int) := by omega
  have hN : n % 300 < 300 := Nat.mod_lt _ (by decide)
  rw [eN]
  clear eN
  generalize n % 300 = N at hN ⊢
  go_loopw [7, 14] (fun v i wr => ∃ (k : Nat) (z : ByteArray), i = .int .i64 k ∧ v = .string z ∧ k ≤ N ∧ z.size ≤ k ∧ Bx k0 k1 w wr) (fun _ i _ => N - (intOf i).toNat)
  case atStart => exact ⟨0, ⟨#[]⟩, rfl, rfl, by omega, Nat.le_refl _, hbx2⟩
  case round =>
    obtain ⟨k, z, rfl, rfl, hk, hz, hbx⟩ := hrel
    have hz2 : z.size ≤ 1000 := by omega
    have HB := Lib.hid hbx
    obtain ⟨⟨c0, c1, cz⟩, hbw⟩ := hbx
    clear hbx2
    by_cases hlt : k < N
    · by_cases h40 : k < 40
      · have d1 : decide ((240 : Int) ≤ (k : Int)) = false := by simp; omega
        have d2 : decide ((k : Int) < 40) = true := by simp; omega
        have v1 : ∀ W : World, (convert 30 9 (.slice (some ⟨W.heap.size, 0, none⟩) 1 1)).run Try.prog (W.alloc (.cells #[.int .u8 (((c : Int) + (k : Int)) % 256)] 5)) = .ok (.string (oneB (((c : Int) + (k : Int)) % 256))) (W.alloc (.cells #[.int .u8 (((c : Int) + (k : Int)) % 256)] 5)) := fun W => back_one W _ (by omega) (by omega)
        have v2 : ∀ W : World, (Op.stringOp .add z (oneB (((c : Int) + (k : Int)) % 256))).run Try.prog W = .ok (.string (z ++ oneB (((c : Int) + (k : Int)) % 256))) W := fun W => run_string_add_sum W _ _ (by rw [oneB_size]; omega)
        have v3 : (z ++ oneB (((c : Int) + (k : Int)) % 256)).size ≤ k + 1 := by rw [ByteArray.size_append, oneB_size]; omega
        go_wp2_with fail
        go_region_held3 (fun w' => w'.cell? ⟨w.heap.size, 0, none⟩ = some (.int .u64 (nu k0)) ∧ w'.cell? ⟨w.heap.size, 1, none⟩ = some (.int .u64 (nu k1)) ∧ w.heap.size < w'.heap.size)
          (go_keep)
          (first
            | (go_at_call 8; refine (sumX w.heap.size k0 k1 z _ hz2 ?_).mono ?_; (simp [*]); rintro e w3 ⟨rfl, ⟨d30, d31, dz3⟩, hb3⟩)
            | (go_at_call 9; refine (rsumX w.heap.size k0 k1 z _ hz2 ?_).mono ?_; (simp [*]); rintro e w4 ⟨rfl, ⟨d40, d41, dz4⟩, hb4⟩))
        have hx := (HB.out.drew.next (w' := w3) hb3).next hb4
        clear HB d30 d31 dz3 d40 d41 dz4 c0 c1 cz hb3
        go_wp2_with fail
        go_roundw
        case rel => exact ⟨k + 1, z ++ oneB (((c : Int) + (k : Int)) % 256), by go_num, rfl, by omega, v3, hx.next ((Below.refl _ _).alloc (Nat.le_refl _) _)⟩
        case measure => simp [intOf]; omega
      by_cases h240 : k < 240
      · have d1 : decide ((240 : Int) ≤ (k : Int)) = false := by simp; omega
        have d2 : decide ((k : Int) < 40) = false := by simp; omega
        have v1 : ∀ W : World, (convert 30 9 (.slice (some ⟨W.heap.size, 0, none⟩) 1 1)).run Try.prog (W.alloc (.cells #[.int .u8 (((c : Int) + (k : Int)) % 256)] 5)) = .ok (.string (oneB (((c : Int) + (k : Int)) % 256))) (W.alloc (.cells #[.int .u8 (((c : Int) + (k : Int)) % 256)] 5)) := fun W => back_one W _ (by omega) (by omega)
        have v2 : ∀ W : World, (Op.stringOp .add z (oneB (((c : Int) + (k : Int)) % 256))).run Try.prog W = .ok (.string (z ++ oneB (((c : Int) + (k : Int)) % 256))) W := fun W => run_string_add_sum W _ _ (by rw [oneB_size]; omega)
        have v3 : (z ++ oneB (((c : Int) + (k : Int)) % 256)).size ≤ k + 1 := by rw [ByteArray.size_append, oneB_size]; omega
        go_wp2_with fail
        go_roundw
        case rel => exact ⟨k + 1, z ++ oneB (((c : Int) + (k : Int)) % 256), by go_num, rfl, by omega, v3, HB.out.next ((Below.refl _ _).alloc (Nat.le_refl _) _)⟩
        case measure => simp [intOf]; omega
      by_cases h256 : k < 256
      · have d1 : decide ((240 : Int) ≤ (k : Int)) = true := by simp; omega
        have d2 : decide ((k : Int) < 40) = false := by simp; omega
        have v1 : ∀ W : World, (convert 30 9 (.slice (some ⟨W.heap.size, 0, none⟩) 1 1)).run Try.prog (W.alloc (.cells #[.int .u8 (((c : Int) + (k : Int)) % 256)] 5)) = .ok (.string (oneB (((c : Int) + (k : Int)) % 256))) (W.alloc (.cells #[.int .u8 (((c : Int) + (k : Int)) % 256)] 5)) := fun W => back_one W _ (by omega) (by omega)
        have v2 : ∀ W : World, (Op.stringOp .add z (oneB (((c : Int) + (k : Int)) % 256))).run Try.prog W = .ok (.string (z ++ oneB (((c : Int) + (k : Int)) % 256))) W := fun W => run_string_add_sum W _ _ (by rw [oneB_size]; omega)
        have v3 : (z ++ oneB (((c : Int) + (k : Int)) % 256)).size ≤ k + 1 := by rw [ByteArray.size_append, oneB_size]; omega
        go_wp2_with fail
        go_region_held3 (fun w' => w'.cell? ⟨w.heap.size, 0, none⟩ = some (.int .u64 (nu k0)) ∧ w'.cell? ⟨w.heap.size, 1, none⟩ = some (.int .u64 (nu k1)) ∧ w.heap.size < w'.heap.size)
          (go_keep)
          (first
            | (go_at_call 8; refine (sumX w.heap.size k0 k1 z _ hz2 ?_).mono ?_; (simp [*]); rintro e w3 ⟨rfl, ⟨d30, d31, dz3⟩, hb3⟩)
            | (go_at_call 9; refine (rsumX w.heap.size k0 k1 z _ hz2 ?_).mono ?_; (simp [*]); rintro e w4 ⟨rfl, ⟨d40, d41, dz4⟩, hb4⟩))
        have hx := (HB.out.drew.next (w' := w3) hb3).next hb4
        clear HB d30 d31 dz3 d40 d41 dz4 c0 c1 cz hb3
        go_wp2_with fail
        go_roundw
        case rel => exact ⟨k + 1, z ++ oneB (((c : Int) + (k : Int)) % 256), by go_num, rfl, by omega, v3, hx.next ((Below.refl _ _).alloc (Nat.le_refl _) _)⟩
        case measure => simp [intOf]; omega
      · have d1 : decide ((240 : Int) ≤ (k : Int)) = true := by simp; omega
        have d2 : decide ((k : Int) < 40) = false := by simp; omega
        have v1 : ∀ W : World, (convert 30 9 (.slice (some ⟨W.heap.size, 0, none⟩) 1 1)).run Try.prog (W.alloc (.cells #[.int .u8 (((c : Int) + (k : Int)) % 256)] 5)) = .ok (.string (oneB (((c : Int) + (k : Int)) % 256))) (W.alloc (.cells #[.int .u8 (((c : Int) + (k : Int)) % 256)] 5)) := fun W => back_one W _ (by omega) (by omega)
        have v2 : ∀ W : World, (Op.stringOp .add z (oneB (((c : Int) + (k : Int)) % 256))).run Try.prog W = .ok (.string (z ++ oneB (((c : Int) + (k : Int)) % 256))) W := fun W => run_string_add_sum W _ _ (by rw [oneB_size]; omega)
        have v3 : (z ++ oneB (((c : Int) + (k : Int)) % 256)).size ≤ k + 1 := by rw [ByteArray.size_append, oneB_size]; omega
        go_wp2_with fail
        go_region_held3 (fun w' => w'.cell? ⟨w.heap.size, 0, none⟩ = some (.int .u64 (nu k0)) ∧ w'.cell? ⟨w.heap.size, 1, none⟩ = some (.int .u64 (nu k1)) ∧ w.heap.size < w'.heap.size)
          (go_keep)
          (first
            | (go_at_call 8; refine (sumX w.heap.size k0 k1 z _ hz2 ?_).mono ?_; (simp [*]); rintro e w3 ⟨rfl, ⟨d30, d31, dz3⟩, hb3⟩)
            | (go_at_call 9; refine (rsumX w.heap.size k0 k1 z _ hz2 ?_).mono ?_; (simp [*]); rintro e w4 ⟨rfl, ⟨d40, d41, dz4⟩, hb4⟩))
        have hx := (HB.out.drew.next (w' := w3) hb3).next hb4
        clear HB d30 d31 dz3 d40 d41 dz4 c0 c1 cz hb3
        go_wp2_with fail
        go_roundw
        case rel => exact ⟨k + 1, z ++ oneB (((c : Int) + (k : Int)) % 256), by go_num, rfl, by omega, v3, hx.next ((Below.refl _ _).alloc (Nat.le_refl _) _)⟩
        case measure => simp [intOf]; omega
    · go_wp2_with fail
      go_region_held3 (fun w' => w'.cell? ⟨w.heap.size, 0, none⟩ = some (.int .u64 (nu k0)) ∧ w'.cell? ⟨w.heap.size, 1, none⟩ = some (.int .u64 (nu k1)) ∧ w.heap.size < w'.heap.size)
        (go_keep)
        (first
          | (go_at_call 8; refine (sumX w.heap.size k0 k1 z _ hz2 ?_).mono ?_; (simp [*]); rintro e w3 ⟨rfl, ⟨d30, d31, dz3⟩, hb3⟩)
          | (go_at_call 9; refine (rsumX w.heap.size k0 k1 z _ hz2 ?_).mono ?_; (simp [*]); rintro e w4 ⟨rfl, ⟨d40, d41, dz4⟩, hb4⟩))
      go_wp2
      go_ret
      exact ⟨ret_bool (by simp), (HB.out.drew.next (w' := w3) hb3).2.trans (hb4.mono (Nat.le_trans hbw.size hb3.size))⟩

theorem nu_of (a : Int) (h : (Lit.int .u64 a).wf = true) : ∃ x : UInt64, a = nu x := by
  have hm : IntKind.u64.min = 0 := rfl
  have hx : IntKind.u64.max = 18446744073709551615 := rfl
  simp only [Lit.wf, Bool.and_eq_true, decide_eq_true_eq] at h
  refine ⟨UInt64.ofNat a.toNat, ?_⟩
  rw [nu_eq, UInt64.toNat_ofNat_of_lt' (by show a.toNat < 18446744073709551616; omega)]
  omega
theorem nat_u8 (a : Int) (h : (Lit.int .u8 a).wf = true) : ∃ x : Nat, a = x ∧ x < 256 := by
  have hm : IntKind.u8.min = 0 := rfl
  have hx : IntKind.u8.max = 255 := rfl
  simp only [Lit.wf, Bool.and_eq_true, decide_eq_true_eq] at h
  exact ⟨a.toNat, by omega, by omega⟩
theorem nat_u16 (a : Int) (h : (Lit.int .u16 a).wf = true) : ∃ x : Nat, a = x ∧ x < 65536 := by
  have hm : IntKind.u16.min = 0 := rfl
  have hx : IntKind.u16.max = 65535 := rfl
  simp only [Lit.wf, Bool.and_eq_true, decide_eq_true_eq] at h
  exact ⟨a.toNat, by omega, by omega⟩

end Go.Proofs.Ytopfmibnabkbiaa
