/-
  The walk of sip.Sum: block by block.
-/
import Derived.Test.YtopfmibnabkbiaaWord
namespace Go.Proofs.Ytopfmibnabkbiaa
open Go.RowKit
set_option linter.unusedVariables false
attribute [local irreducible] le

def W (n : Nat) : UInt64 := UInt64.ofNat n
theorem W_nu (n : Nat) (h : n < 18446744073709551616) : nu (W n) = (n : Int) := by
  rw [nu_eq]; unfold W; rw [UInt64.toNat_ofNat_of_lt' h]

/-- the state behind k blocks of eight bytes -/
def ab (l : List UInt8) (s : S4) : Nat → S4
  | 0 => s
  | k + 1 => tk (W (le ((l.drop (8 * k)).take 8))) (ab l s k)
def first (k0 k1 : UInt64) : S4 := ⟨k0 ^^^ 8317987319222330741, k1 ^^^ 7237128888997146477, k0 ^^^ 7816392313619706465, k1 ^^^ 8387220255154660723⟩
/-- the last word: what is left, and the length -/
def lastW (l : List UInt8) : Nat := le (l.drop (8 * (l.length / 8))) + l.length % 256 * 72057594037927936
def closing (s : S4) : UInt64 :=
  let t := rnds 4 ⟨s.v0, s.v1, s.v2 ^^^ 255, s.v3⟩
  t.v0 ^^^ t.v1 ^^^ t.v2 ^^^ t.v3
/-- the document's sum -/
def sumS (k0 k1 : UInt64) (l : List UInt8) : UInt64 := closing (tk (W (lastW l)) (ab l (first k0 k1) (l.length / 8)))

theorem c0_nu (x : UInt64) : bits .xor .u64 (nu x) 8317987319222330741 = nu (x ^^^ 8317987319222330741) := by
  rw [← xor_nu, nu_eq 8317987319222330741]; rfl
theorem c1_nu (x : UInt64) : bits .xor .u64 (nu x) 7237128888997146477 = nu (x ^^^ 7237128888997146477) := by
  rw [← xor_nu, nu_eq 7237128888997146477]; rfl
theorem c2_nu (x : UInt64) : bits .xor .u64 (nu x) 7816392313619706465 = nu (x ^^^ 7816392313619706465) := by
  rw [← xor_nu, nu_eq 7816392313619706465]; rfl
theorem c3_nu (x : UInt64) : bits .xor .u64 (nu x) 8387220255154660723 = nu (x ^^^ 8387220255154660723) := by
  rw [← xor_nu, nu_eq 8387220255154660723]; rfl
theorem c255_nu (x : UInt64) : bits .xor .u64 (nu x) 255 = nu (x ^^^ 255) := by
  rw [← xor_nu, nu_eq 255]; rfl
attribute [local go_sem] add_nu xor_nu c0_nu c1_nu c2_nu c3_nu c255_nu

theorem le_lt8 (l : List UInt8) (h : l.length ≤ 8) : le l < 18446744073709551616 := by
  have h1 := le_lt l
  have h2 : (256 : Nat) ^ l.length ≤ 256 ^ 8 := Nat.pow_le_pow_right (by decide) h
  have h3 : (256 : Nat) ^ 8 = 18446744073709551616 := by decide
  omega

def wv (s : ByteArray) : UInt64 := W (le s.data.toList)
theorem wv_eq (s : ByteArray) : wv s = W (le s.data.toList) := rfl
theorem word_nu (s : ByteArray) (w : World) (h : s.size ≤ 8) :
    Calls Try.prog 14 #[.string s] w fun e w' => e = .returned (.int .u64 (nu (wv s))) ∧ w = w' := by
  unfold wv
  rw [W_nu _ (le_lt8 _ (by rw [len_list]; exact h))]
  exact word_any s w h

theorem last_or (a n : Nat) (ha : a < 72057594037927936) :
    bits .or .u64 (nu (W a)) (IntKind.u64.wrap ((n : Int) * 72057594037927936)) = nu (W (a + n % 256 * 72057594037927936)) := by
  rw [W_nu a (by omega), W_nu _ (by omega)]
  have e : IntKind.u64.wrap ((n : Int) * 72057594037927936) = ((72057594037927936 * (n % 256) : Nat) : Int) := by
    rw [wrap_u64]; omega
  rw [e, u64_or_nat _ _ (by omega) (by omega), Nat.or_comm]
  have := Nat.two_pow_add_eq_or_of_lt (i := 56) (b := a) ha (n % 256)
  have e2 : (2 : Nat) ^ 56 = 72057594037927936 := by decide
  rw [e2] at this
  rw [← this]
  congr 1; omega

theorem le_lt7 (l : List UInt8) (h : l.length ≤ 7) : le l < 72057594037927936 := by
  have h1 := le_lt l
  have h2 : (256 : Nat) ^ l.length ≤ 256 ^ 7 := Nat.pow_le_pow_right (by decide) h
  have h3 : (256 : Nat) ^ 7 = 72057594037927936 := by decide
  omega

theorem only_set' {a w : World} {g : Nat} (h : a.grownBy w (some g)) (i : Nat) (u : Value) : a.grownBy (w.setCell ⟨g, i, none⟩ u) (some g) :=
  ⟨h.os, h.tape, h.output, by have := h.size; simpa [World.setCell] using this, fun j hj hne => (Below.heap_setCell w ⟨g, i, none⟩ u j (by rintro rfl; exact hne rfl)).trans (h.block j hj hne)⟩
section
variable {b : Nat} {w0 w : World} {x0 x1 x2 x3 : UInt64}
theorem St.put0 (h : St b w0 w x0 x1 x2 x3) (y : UInt64) : St b w0 (w.setCell ⟨b, 0, none⟩ (.int .u64 (nu y))) y x1 x2 x3 := by
  obtain ⟨c0, c1, c2, c3, f0, f1, f2, f3, own⟩ := h
  exact ⟨by go_simp, by go_simp, by go_simp, by go_simp, by go_simp, by go_simp, by go_simp, by go_simp, only_set' own _ _⟩
theorem St.put2 (h : St b w0 w x0 x1 x2 x3) (y : UInt64) : St b w0 (w.setCell ⟨b, 2, none⟩ (.int .u64 (nu y))) x0 x1 y x3 := by
  obtain ⟨c0, c1, c2, c3, f0, f1, f2, f3, own⟩ := h
  exact ⟨by go_simp, by go_simp, by go_simp, by go_simp, by go_simp, by go_simp, by go_simp, by go_simp, only_set' own _ _⟩
theorem St.put3 (h : St b w0 w x0 x1 x2 x3) (y : UInt64) : St b w0 (w.setCell ⟨b, 3, none⟩ (.int .u64 (nu y))) x0 x1 x2 y := by
  obtain ⟨c0, c1, c2, c3, f0, f1, f2, f3, own⟩ := h
  exact ⟨by go_simp, by go_simp, by go_simp, by go_simp, by go_simp, by go_simp, by go_simp, by go_simp, only_set' own _ _⟩
end

def strLen : Value → Nat
  | .string s => s.size
  | _ => 0

set_option maxRecDepth 100000 in
set_option maxHeartbeats 1000000 in
theorem sum_any (k0 k1 : UInt64) (s : ByteArray) (w : World) (hs : s.size ≤ 1000) :
    Calls Try.prog 8 #[.agg #[.int .u64 (nu k0), .int .u64 (nu k1)], .string s] w fun e w' => e = .returned (.int .u64 (nu (sumS k0 k1 s.data.toList))) ∧ Below w.heap.size w w' := by
  go_enter Try.func8, Try.ntmps8
  go_wp2_with fail
  have hst : StS (w.heap.size + 1)
      ((w.alloc (Obj.cells #[Value.int IntKind.u64 (nu k0), Value.int IntKind.u64 (nu k1)] 24)).alloc (Obj.cells #[Value.int IntKind.u64 (nu (k0 ^^^ 8317987319222330741)), Value.int IntKind.u64 (nu (k1 ^^^ 7237128888997146477)), Value.int IntKind.u64 (nu (k0 ^^^ 7816392313619706465)), Value.int IntKind.u64 (nu (k1 ^^^ 8387220255154660723))] 42))
      ((w.alloc (Obj.cells #[Value.int IntKind.u64 (nu k0), Value.int IntKind.u64 (nu k1)] 24)).alloc (Obj.cells #[Value.int IntKind.u64 (nu (k0 ^^^ 8317987319222330741)), Value.int IntKind.u64 (nu (k1 ^^^ 7237128888997146477)), Value.int IntKind.u64 (nu (k0 ^^^ 7816392313619706465)), Value.int IntKind.u64 (nu (k1 ^^^ 8387220255154660723))] 42))
      (first k0 k1) :=
    ⟨by go_simp; rfl, by go_simp; rfl, by go_simp; rfl, by go_simp; rfl, by go_simp, by go_simp, by go_simp, by go_simp, ⟨rfl, rfl, rfl, Nat.le_refl _, fun _ _ _ => rfl⟩⟩
  have hb0 : Below w.heap.size w ((w.alloc (Obj.cells #[Value.int IntKind.u64 (nu k0), Value.int IntKind.u64 (nu k1)] 24)).alloc (Obj.cells #[Value.int IntKind.u64 (nu (k0 ^^^ 8317987319222330741)), Value.int IntKind.u64 (nu (k1 ^^^ 7237128888997146477)), Value.int IntKind.u64 (nu (k0 ^^^ 7816392313619706465)), Value.int IntKind.u64 (nu (k1 ^^^ 8387220255154660723))] 42)) :=
    ((Below.refl _ _).alloc (Nat.le_refl _) _).alloc (by simp) _
  generalize ((w.alloc (Obj.cells #[Value.int IntKind.u64 (nu k0), Value.int IntKind.u64 (nu k1)] 24)).alloc (Obj.cells #[Value.int IntKind.u64 (nu (k0 ^^^ 8317987319222330741)), Value.int IntKind.u64 (nu (k1 ^^^ 7237128888997146477)), Value.int IntKind.u64 (nu (k0 ^^^ 7816392313619706465)), Value.int IntKind.u64 (nu (k1 ^^^ 8387220255154660723))] 42)) = W2 at hst hb0 ⊢
  have HST := Lib.hid hst
  clear hst
  go_loopw [1] (fun v wr => ∃ (k : Nat) (z : ByteArray), v = .string z ∧ 8 * k ≤ s.size ∧ z.size ≤ 1000 ∧ Hid (z.data.toList = s.data.toList.drop (8 * k)) ∧ StS (w.heap.size + 1) W2 wr (ab s.data.toList (first k0 k1) k)) (fun v _ => strLen v)
  case atStart => exact ⟨0, s, rfl, by omega, hs, Lib.hid (by simp), HST.out⟩
  case round =>
    obtain ⟨k, z, rfl, hk, hz, HZ, hst⟩ := hrel
    have HS := Lib.hid hst
    clear hst
    by_cases h8 : 8 ≤ z.size
    · have hm : 8 * (k + 1) ≤ s.size ∧ (z.extract 0 8).data.toList = (s.data.toList.drop (8 * k)).take 8 ∧ (z.extract 8 z.size).data.toList = s.data.toList.drop (8 * (k + 1)) := by
        have e1 := HZ.out
        have e2 : z.size = s.size - 8 * k := by rw [← len_list z, e1, List.length_drop, len_list]
        refine ⟨by omega, ?_, ?_⟩
        · rw [Lib.extract_data, e1, List.drop_zero]
        · rw [Lib.extract_data, e1, List.take_of_length_le (by rw [List.length_drop, List.length_drop, len_list]; omega), List.drop_drop]
          congr 1
      have HM := Lib.hid hm.2
      have hm1 := hm.1
      clear hm
      have z8 : (z.extract 0 8).size ≤ 8 := by rw [ByteArray.size_extract]; omega
      have zz : (z.extract 8 z.size).size ≤ 1000 := by rw [ByteArray.size_extract]; omega
      go_wp2_with fail
      refine (word_nu (z.extract 0 8) _ z8).mono ?_
      rintro e w1 ⟨rfl, rfl⟩
      go_wp2_with fail
      refine (take_any (w.heap.size + 1) _ _ _ _ HS.out).mono ?_
      rintro e w1 ⟨rfl, hst⟩
      rw [wv_eq, HM.out.1] at hst
      have HS := Lib.hid hst
      clear hst
      go_wp2_with fail
      go_roundw
      case rel => exact ⟨k + 1, z.extract 8 z.size, rfl, hm1, zz, Lib.hid HM.out.2, HS.out⟩
      case measure => simp [strLen]; omega
    · have hq : s.data.toList.length / 8 = k ∧ z.data.toList = s.data.toList.drop (8 * (s.data.toList.length / 8)) ∧ lastW s.data.toList = le z.data.toList + s.size % 256 * 72057594037927936 := by
        have e1 := HZ.out
        have e2 : z.size = s.size - 8 * k := by rw [← len_list z, e1, List.length_drop, len_list]
        have e3 : s.data.toList.length / 8 = k := by rw [len_list]; omega
        refine ⟨e3, by rw [e3, e1], ?_⟩
        unfold lastW
        rw [e3, ← e1, len_list]
      have HQ := Lib.hid hq
      clear hq
      have hlow := le_lt7 z.data.toList (by rw [len_list]; omega)
      have HO := Lib.hid (last_or (le z.data.toList) s.size hlow)
      clear hlow
      go_wp2_with fail
      refine (word_nu z _ (by omega)).mono ?_
      rintro e w1 ⟨rfl, rfl⟩
      go_wp2_with fail
      rw [wv_eq, HO.out, ← HQ.out.2.2]
      refine (take_any (w.heap.size + 1) _ _ _ _ HS.out).mono ?_
      rintro e w1 ⟨rfl, hst⟩
      have hfin : sumS k0 k1 s.data.toList = closing (tk (W (lastW s.data.toList)) (ab s.data.toList (first k0 k1) k)) := by
        unfold sumS; rw [HQ.out.1]
      have HF := Lib.hid hfin
      clear hfin HS HO HQ HZ HST
      generalize tk (W (lastW s.data.toList)) (ab s.data.toList (first k0 k1) k) = q at hst HF
      obtain ⟨q0, q1, q2, q3⟩ := q
      have H : Hid (St (w.heap.size + 1) W2 w1 q0 q1 q2 q3) := hst
      clear hst
      have ⟨c0, c1, c2, c3, f0, f1, f2, f3, _⟩ := H.out
      have hcl : closing ⟨q0, q1, q2, q3⟩ = (rnds 4 ⟨q0, q1, q2 ^^^ 255, q3⟩).v0 ^^^ (rnds 4 ⟨q0, q1, q2 ^^^ 255, q3⟩).v1 ^^^ (rnds 4 ⟨q0, q1, q2 ^^^ 255, q3⟩).v2 ^^^ (rnds 4 ⟨q0, q1, q2 ^^^ 255, q3⟩).v3 := rfl
      rw [hcl] at HF
      clear hcl
      go_wp2_with fail
      refine (rounds_any (w.heap.size + 1) 4 ⟨q0, q1, q2 ^^^ 255, q3⟩ W2 _ (H.out.put2 (q2 ^^^ 255)) (by omega)).mono ?_
      generalize rnds 4 ⟨q0, q1, q2 ^^^ 255, q3⟩ = t at HF ⊢
      rintro e w3 ⟨rfl, hst⟩
      obtain ⟨t0, t1, t2, t3⟩ := t
      have H3 : Hid (St (w.heap.size + 1) W2 w3 t0 t1 t2 t3) := hst
      clear hst H c0 c1 c2 c3 f0 f1 f2 f3
      have ⟨c0, c1, c2, c3, f0, f1, f2, f3, _⟩ := H3.out
      go_wp2
      go_ret
      exact ⟨ret_int (congrArg nu HF.out.symm), Below.grown hb0 H3.out.own hb0.size (fun k hk => by cases hk; omega)⟩

end Go.Proofs.Ytopfmibnabkbiaa
