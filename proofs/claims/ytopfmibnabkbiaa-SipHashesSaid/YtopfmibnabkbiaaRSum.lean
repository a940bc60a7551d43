/-
  The walk of the reference's Sum.
-/
import Derived.Test.YtopfmibnabkbiaaSum
namespace Go.Proofs.Ytopfmibnabkbiaa
open Go.RowKit
set_option linter.unusedVariables false
attribute [local irreducible] le
attribute [local go_sem] add_nu xor_nu c0_nu c1_nu c2_nu c3_nu c255_nu

theorem rround_b (s : S4) (w : World) :
    Calls Try.prog 16 #[aggS s] w fun e w' => e = .returned (aggS (rnd s)) ∧ Below w.heap.size w w' := rround_any s.v0 s.v1 s.v2 s.v3 w

def stR (l : List UInt8) (s : S4) (k : Nat) : S4 := if k ≤ l.length / 8 then ab l s k else tk (W (lastW l)) (ab l s (l.length / 8))

/-- what the inner loop has gathered: the bytes from j on of those at p -/
def bl (l : List UInt8) (p j : Nat) : Nat := le ((l.drop (p + j)).take (8 - j))
theorem le_nil : le [] = 0 := by unfold le; rfl
theorem le_cons (c : UInt8) (t : List UInt8) : le (c :: t) = c.toNat + 256 * le t := by
  conv => lhs; unfold le
theorem bl_top (l : List UInt8) (p : Nat) : bl l p 8 = 0 := by unfold bl; simp [le_nil]
theorem bl_in (s : ByteArray) (p m : Nat) (hm : m < 8) (h : p + m < s.size) : bl s.data.toList p m = bl s.data.toList p (m + 1) * 256 + s[p + m].toNat := by
  unfold bl
  have e : s.data.toList.drop (p + m) = s[p + m] :: s.data.toList.drop (p + (m + 1)) := by
    rw [List.drop_eq_getElem_cons (by rw [len_list]; exact h)]; rfl
  rw [e, show 8 - m = (8 - (m + 1)) + 1 from by omega, List.take_succ_cons, le_cons]
  omega
theorem bl_out (s : ByteArray) (p m : Nat) (hm : m < 8) (h : ¬ p + m < s.size) : bl s.data.toList p m = bl s.data.toList p (m + 1) * 256 := by
  unfold bl
  rw [List.drop_eq_nil_of_le (by rw [len_list]; omega), List.drop_eq_nil_of_le (by rw [len_list]; omega)]
  simp [le_nil]
theorem bl_lt (l : List UInt8) (p m : Nat) (hm : m < 8) : bl l p (m + 1) < 72057594037927936 := by
  unfold bl
  exact le_lt7 _ (by rw [List.length_take]; omega)

theorem only_below {a w w' : World} {g : Nat} (h : a.grownBy w (some g)) (hb : Below w.heap.size w w') : a.grownBy w' (some g) :=
  ⟨hb.os.trans h.os, hb.tape.trans h.tape, hb.output.trans h.output, Nat.le_trans h.size hb.size, fun i hi hne => (hb.block i (Nat.lt_of_lt_of_le hi h.size)).trans (h.block i hi hne)⟩
theorem St.below {b : Nat} {w0 w w' : World} {x0 x1 x2 x3 : UInt64} (h : St b w0 w x0 x1 x2 x3) (hb : Below w.heap.size w w') (hlt : b < w.heap.size) : St b w0 w' x0 x1 x2 x3 := by
  obtain ⟨c0, c1, c2, c3, f0, f1, f2, f3, own⟩ := h
  exact ⟨(hb.cell (p := ⟨b, 0, none⟩) hlt).trans c0, (hb.cell (p := ⟨b, 1, none⟩) hlt).trans c1, (hb.cell (p := ⟨b, 2, none⟩) hlt).trans c2, (hb.cell (p := ⟨b, 3, none⟩) hlt).trans c3,
    (hb.frozen (p := ⟨b, 0, none⟩) hlt).trans f0, (hb.frozen (p := ⟨b, 1, none⟩) hlt).trans f1, (hb.frozen (p := ⟨b, 2, none⟩) hlt).trans f2, (hb.frozen (p := ⟨b, 3, none⟩) hlt).trans f3, only_below own hb⟩

theorem St.put1 {b : Nat} {w0 w : World} {x0 x1 x2 x3 : UInt64} (h : St b w0 w x0 x1 x2 x3) (y : UInt64) : St b w0 (w.setCell ⟨b, 1, none⟩ (.int .u64 (nu y))) x0 y x2 x3 := by
  obtain ⟨c0, c1, c2, c3, f0, f1, f2, f3, own⟩ := h
  exact ⟨by go_simp, by go_simp, by go_simp, by go_simp, by go_simp, by go_simp, by go_simp, by go_simp, only_set' own _ _⟩

set_option maxRecDepth 100000 in
set_option maxHeartbeats 2000000 in
theorem rsum_any (k0 k1 : UInt64) (s : ByteArray) (w : World) (hs : s.size ≤ 1000) :
    Calls Try.prog 9 #[.int .u64 (nu k0), .int .u64 (nu k1), .string s] w fun e w' => e = .returned (.int .u64 (nu (sumS k0 k1 s.data.toList))) ∧ Below w.heap.size w w' := by
  go_enter Try.func9, Try.ntmps9
  go_wp2_with fail
  have hst : StS w.heap.size
      (w.alloc (Obj.cells #[Value.int IntKind.u64 (nu (k0 ^^^ 8317987319222330741)), Value.int IntKind.u64 (nu (k1 ^^^ 7237128888997146477)), Value.int IntKind.u64 (nu (k0 ^^^ 7816392313619706465)), Value.int IntKind.u64 (nu (k1 ^^^ 8387220255154660723))] 41))
      (w.alloc (Obj.cells #[Value.int IntKind.u64 (nu (k0 ^^^ 8317987319222330741)), Value.int IntKind.u64 (nu (k1 ^^^ 7237128888997146477)), Value.int IntKind.u64 (nu (k0 ^^^ 7816392313619706465)), Value.int IntKind.u64 (nu (k1 ^^^ 8387220255154660723))] 41))
      (first k0 k1) :=
    ⟨by go_simp; rfl, by go_simp; rfl, by go_simp; rfl, by go_simp; rfl, by go_simp, by go_simp, by go_simp, by go_simp, ⟨rfl, rfl, rfl, Nat.le_refl _, fun _ _ _ => rfl⟩⟩
  have hb0 : Below w.heap.size w (w.alloc (Obj.cells #[Value.int IntKind.u64 (nu (k0 ^^^ 8317987319222330741)), Value.int IntKind.u64 (nu (k1 ^^^ 7237128888997146477)), Value.int IntKind.u64 (nu (k0 ^^^ 7816392313619706465)), Value.int IntKind.u64 (nu (k1 ^^^ 8387220255154660723))] 41)) :=
    (Below.refl _ _).alloc (Nat.le_refl _) _
  have hsz : w.heap.size < (w.alloc (Obj.cells #[Value.int IntKind.u64 (nu (k0 ^^^ 8317987319222330741)), Value.int IntKind.u64 (nu (k1 ^^^ 7237128888997146477)), Value.int IntKind.u64 (nu (k0 ^^^ 7816392313619706465)), Value.int IntKind.u64 (nu (k1 ^^^ 8387220255154660723))] 41)).heap.size := by simp
  generalize (w.alloc (Obj.cells #[Value.int IntKind.u64 (nu (k0 ^^^ 8317987319222330741)), Value.int IntKind.u64 (nu (k1 ^^^ 7237128888997146477)), Value.int IntKind.u64 (nu (k0 ^^^ 7816392313619706465)), Value.int IntKind.u64 (nu (k1 ^^^ 8387220255154660723))] 41)) = W2 at hst hb0 hsz ⊢
  have HST := Lib.hid hst
  clear hst
  go_loopw [8] (fun v wr => ∃ (k p : Nat), v = .int .i64 p ∧ Hid (p = 8 * k) ∧ p ≤ s.size + 8 ∧ StS w.heap.size W2 wr (stR s.data.toList (first k0 k1) k)) (fun v _ => (s.size + 16 - (intOf v).toNat))
  case atStart => exact ⟨0, 0, rfl, Lib.hid rfl, by omega, HST.out⟩
  case round =>
    obtain ⟨k, p, rfl, HP, hp, hst⟩ := hrel
    have HS := Lib.hid hst
    clear hst
    by_cases h8 : p ≤ s.size
    · have d8 : decide ((p : Int) ≤ (s.size : Int)) = true := by simpa using h8
      obtain ⟨wo, rfl⟩ : ∃ wo : World, wo = wr := ⟨_, rfl⟩
      go_wp2_with fail
      go_loopw [9, 10] (fun v i wr => ∃ (j a : Nat), v = .int .u64 a ∧ i = .int .i64 ((j : Int) - 1) ∧ j ≤ 8 ∧ Hid (a = bl s.data.toList p j) ∧ wo = wr) (fun _ i _ => (intOf i + 1).toNat)
      case atStart => exact ⟨8, 0, rfl, rfl, by omega, Lib.hid (bl_top _ _).symm, rfl⟩
      case round =>
        obtain ⟨j, a, rfl, rfl, hj, HA, rfl⟩ := hrel
        cases j with
        | zero =>
          rw [show (((0 : Nat) : Int) - 1) = -1 from rfl]
          have hBlt : w.heap.size < wo.heap.size := Nat.lt_of_lt_of_le hsz (St.own HS.out).size
          by_cases hfull : p + 8 ≤ s.size
          · have hsr : stR s.data.toList (first k0 k1) k = ab s.data.toList (first k0 k1) k ∧ stR s.data.toList (first k0 k1) (k + 1) = tk (W a) (ab s.data.toList (first k0 k1) k) := by
              have e1 := HP.out
              have e2 : s.data.toList.length / 8 = s.size / 8 := by rw [len_list]
              have e3 : a = le ((s.data.toList.drop (8 * k)).take 8) := by rw [HA.out]; unfold bl; rw [Nat.add_zero, e1]
              unfold stR
              rw [if_pos (by omega), if_pos (by omega)]
              exact ⟨rfl, by rw [e3]; rfl⟩
            have HR := Lib.hid hsr.2
            have h1 := HS.out
            rw [hsr.1] at h1
            clear hsr
            generalize ab s.data.toList (first k0 k1) k = q at h1 HR
            obtain ⟨q0, q1, q2, q3⟩ := q
            have H : Hid (St w.heap.size W2 wo q0 q1 q2 q3) := h1
            clear h1 HS HST
            have ⟨c0, c1, c2, c3, f0, f1, f2, f3, _⟩ := H.out
            have ha : a < 18446744073709551616 := by rw [HA.out]; unfold bl; exact le_lt8 _ (by rw [List.length_take]; omega)
            have hw := (W_nu a ha).symm
            clear ha
            generalize W a = M at HR hw
            go_wp2_with fail
            have H3 := Lib.hid (H.out.put3 (q3 ^^^ M))
            generalize wo.setCell ⟨w.heap.size, 3, none⟩ (.int .u64 (nu (q3 ^^^ M))) = W3 at H3 ⊢
            have hB3 : w.heap.size < W3.heap.size := Nat.lt_of_lt_of_le hsz (St.own H3.out).size
            clear H c0 c1 c2 c3 f0 f1 f2 f3 hBlt
            have hrn : tk M ⟨q0, q1, q2, q3⟩ = ⟨(rnd (rnd ⟨q0, q1, q2, q3 ^^^ M⟩)).v0 ^^^ M, (rnd (rnd ⟨q0, q1, q2, q3 ^^^ M⟩)).v1, (rnd (rnd ⟨q0, q1, q2, q3 ^^^ M⟩)).v2, (rnd (rnd ⟨q0, q1, q2, q3 ^^^ M⟩)).v3⟩ := rfl
            rw [hrn] at HR
            clear hrn
            refine (rround_any q0 q1 q2 (q3 ^^^ M) _).mono ?_
            generalize rnd ⟨q0, q1, q2, q3 ^^^ M⟩ = r1 at HR ⊢
            obtain ⟨r10, r11, r12, r13⟩ := r1
            rintro e W4 ⟨rfl, hb4⟩
            have H4 := Lib.hid (St.below H3.out hb4 hB3)
            have hB4 : w.heap.size < W4.heap.size := Nat.lt_of_lt_of_le hB3 hb4.size
            clear H3 hb4 hB3
            go_wp2_with fail
            refine (rround_any r10 r11 r12 r13 _).mono ?_
            generalize rnd ⟨r10, r11, r12, r13⟩ = r2 at HR ⊢
            obtain ⟨r20, r21, r22, r23⟩ := r2
            rintro e W5 ⟨rfl, hb5⟩
            have H5 := Lib.hid (St.below H4.out hb5 hB4)
            clear H4 hb5 hB4
            have ⟨c0, c1, c2, c3, f0, f1, f2, f3, _⟩ := H5.out
            go_wp2_with fail
            go_roundw
            case rel => exact ⟨k + 1, p + 8, by go_num, Lib.hid (by have := HP.out; omega), by omega, by rw [HR.out]; exact ((((St.put0 H5.out r20).put1 r21).put2 r22).put3 r23).put0 (r20 ^^^ M)⟩
            case measure => simp [intOf]; omega
          · have hsr : stR s.data.toList (first k0 k1) k = ab s.data.toList (first k0 k1) k ∧ stR s.data.toList (first k0 k1) (k + 1) = tk (W (a + s.size % 256 * 72057594037927936)) (ab s.data.toList (first k0 k1) k) := by
              have e1 := HP.out
              have e2 : s.data.toList.length / 8 = s.size / 8 := by rw [len_list]
              have e4 : s.size / 8 = k := by omega
              have e3 : a = le (s.data.toList.drop (8 * k)) := by
                rw [HA.out]; unfold bl; rw [Nat.add_zero, e1, List.take_of_length_le]; rw [List.length_drop, len_list]; omega
              unfold stR lastW
              rw [if_pos (by omega), if_neg (by omega), e2, e4, ← e3, len_list]
              exact ⟨rfl, rfl⟩
            have HR := Lib.hid hsr.2
            have h1 := HS.out
            rw [hsr.1] at h1
            clear hsr
            generalize ab s.data.toList (first k0 k1) k = q at h1 HR
            obtain ⟨q0, q1, q2, q3⟩ := q
            have H : Hid (St w.heap.size W2 wo q0 q1 q2 q3) := h1
            clear h1 HS HST
            have ⟨c0, c1, c2, c3, f0, f1, f2, f3, _⟩ := H.out
            have ha : a < 72057594037927936 := by rw [HA.out]; unfold bl; exact le_lt7 _ (by have e1 := HP.out; rw [List.length_take, List.length_drop, len_list]; omega)
            have hw : (a : Int) + (s.size : Int) % 256 * 72057594037927936 = nu (W (a + s.size % 256 * 72057594037927936)) := by
              rw [W_nu _ (by omega)]; omega
            generalize W (a + s.size % 256 * 72057594037927936) = M at HR hw
            go_wp2_with fail
            have H3 := Lib.hid (H.out.put3 (q3 ^^^ M))
            generalize wo.setCell ⟨w.heap.size, 3, none⟩ (.int .u64 (nu (q3 ^^^ M))) = W3 at H3 ⊢
            have hB3 : w.heap.size < W3.heap.size := Nat.lt_of_lt_of_le hsz (St.own H3.out).size
            clear H c0 c1 c2 c3 f0 f1 f2 f3 hBlt
            have hrn : tk M ⟨q0, q1, q2, q3⟩ = ⟨(rnd (rnd ⟨q0, q1, q2, q3 ^^^ M⟩)).v0 ^^^ M, (rnd (rnd ⟨q0, q1, q2, q3 ^^^ M⟩)).v1, (rnd (rnd ⟨q0, q1, q2, q3 ^^^ M⟩)).v2, (rnd (rnd ⟨q0, q1, q2, q3 ^^^ M⟩)).v3⟩ := rfl
            rw [hrn] at HR
            clear hrn
            refine (rround_any q0 q1 q2 (q3 ^^^ M) _).mono ?_
            generalize rnd ⟨q0, q1, q2, q3 ^^^ M⟩ = r1 at HR ⊢
            obtain ⟨r10, r11, r12, r13⟩ := r1
            rintro e W4 ⟨rfl, hb4⟩
            have H4 := Lib.hid (St.below H3.out hb4 hB3)
            have hB4 : w.heap.size < W4.heap.size := Nat.lt_of_lt_of_le hB3 hb4.size
            clear H3 hb4 hB3
            go_wp2_with fail
            refine (rround_any r10 r11 r12 r13 _).mono ?_
            generalize rnd ⟨r10, r11, r12, r13⟩ = r2 at HR ⊢
            obtain ⟨r20, r21, r22, r23⟩ := r2
            rintro e W5 ⟨rfl, hb5⟩
            have H5 := Lib.hid (St.below H4.out hb5 hB4)
            clear H4 hb5 hB4
            have ⟨c0, c1, c2, c3, f0, f1, f2, f3, _⟩ := H5.out
            go_wp2_with fail
            go_roundw
            case rel => exact ⟨k + 1, p + 8, by go_num, Lib.hid (by have := HP.out; omega), by omega, by rw [HR.out]; exact ((((St.put0 H5.out r20).put1 r21).put2 r22).put3 r23).put0 (r20 ^^^ M)⟩
            case measure => simp [intOf]; omega
        | succ m =>
          rw [show (((m + 1 : Nat) : Int) - 1) = (m : Int) from by omega]
          have hlow := bl_lt s.data.toList p m (by omega)
          rw [← HA.out] at hlow
          by_cases hin : p + m < s.size
          · have HB := Lib.hid (bl_in s p m (by omega) hin)
            rw [← HA.out] at HB
            have hc := (s[p + m]).toNat_lt
            go_wp2_with fail
            go_roundw
            case rel => exact ⟨m, bl s.data.toList p m, congrArg (Value.int .u64) (by rw [HB.out]; omega), rfl, by omega, Lib.hid rfl, trivial⟩
            case measure => simp [intOf]
          · have HB := Lib.hid (bl_out s p m (by omega) hin)
            rw [← HA.out] at HB
            go_wp2_with fail
            go_roundw
            case rel => exact ⟨m, bl s.data.toList p m, congrArg (Value.int .u64) (by rw [HB.out]; omega), rfl, by omega, Lib.hid rfl, trivial⟩
            case measure => simp [intOf]
    · have hfin : sumS k0 k1 s.data.toList = closing (stR s.data.toList (first k0 k1) k) := by
        have e1 := HP.out
        have e2 : s.data.toList.length / 8 = s.size / 8 := by rw [len_list]
        unfold sumS stR
        rw [if_neg (by omega)]
      have HF := Lib.hid hfin
      clear hfin HST
      have h1 := HS.out
      generalize stR s.data.toList (first k0 k1) k = q at h1 HF
      obtain ⟨q0, q1, q2, q3⟩ := q
      have H : Hid (St w.heap.size W2 wr q0 q1 q2 q3) := h1
      clear h1 HS
      have ⟨c0, c1, c2, c3, f0, f1, f2, f3, _⟩ := H.out
      have hcl : closing ⟨q0, q1, q2, q3⟩ = (rnd (rnd (rnd (rnd ⟨q0, q1, q2 ^^^ 255, q3⟩)))).v0 ^^^ (rnd (rnd (rnd (rnd ⟨q0, q1, q2 ^^^ 255, q3⟩)))).v1 ^^^ (rnd (rnd (rnd (rnd ⟨q0, q1, q2 ^^^ 255, q3⟩)))).v2 ^^^ (rnd (rnd (rnd (rnd ⟨q0, q1, q2 ^^^ 255, q3⟩)))).v3 := rfl
      rw [hcl] at HF
      clear hcl
      go_wp2_with fail
      have H3 := Lib.hid (H.out.put2 (q2 ^^^ 255))
      generalize wr.setCell ⟨w.heap.size, 2, none⟩ (.int .u64 (nu (q2 ^^^ 255))) = W3 at H3 ⊢
      have hB3 : w.heap.size < W3.heap.size := Nat.lt_of_lt_of_le hsz (St.own H3.out).size
      clear H c0 c1 c2 c3 f0 f1 f2 f3
      refine (rround_any q0 q1 (q2 ^^^ 255) q3 _).mono ?_
      generalize rnd ⟨q0, q1, q2 ^^^ 255, q3⟩ = r1 at HF ⊢
      obtain ⟨r10, r11, r12, r13⟩ := r1
      rintro e W4 ⟨rfl, hb4⟩
      have H4 := Lib.hid (St.below H3.out hb4 hB3)
      have hB4 : w.heap.size < W4.heap.size := Nat.lt_of_lt_of_le hB3 hb4.size
      clear H3 hb4 hB3
      go_wp2_with fail
      refine (rround_any r10 r11 r12 r13 _).mono ?_
      generalize rnd ⟨r10, r11, r12, r13⟩ = r2 at HF ⊢
      obtain ⟨r20, r21, r22, r23⟩ := r2
      rintro e W5 ⟨rfl, hb5⟩
      have H5 := Lib.hid (St.below H4.out hb5 hB4)
      have hB5 : w.heap.size < W5.heap.size := Nat.lt_of_lt_of_le hB4 hb5.size
      clear H4 hb5 hB4
      go_wp2_with fail
      refine (rround_any r20 r21 r22 r23 _).mono ?_
      generalize rnd ⟨r20, r21, r22, r23⟩ = r3 at HF ⊢
      obtain ⟨r30, r31, r32, r33⟩ := r3
      rintro e W6 ⟨rfl, hb6⟩
      have H6 := Lib.hid (St.below H5.out hb6 hB5)
      have hB6 : w.heap.size < W6.heap.size := Nat.lt_of_lt_of_le hB5 hb6.size
      clear H5 hb6 hB5
      go_wp2_with fail
      refine (rround_any r30 r31 r32 r33 _).mono ?_
      generalize rnd ⟨r30, r31, r32, r33⟩ = r4 at HF ⊢
      obtain ⟨r40, r41, r42, r43⟩ := r4
      rintro e W7 ⟨rfl, hb7⟩
      have H7 := Lib.hid (St.below H6.out hb7 hB6)
      clear H6 hb7 hB6
      have ⟨c0, c1, c2, c3, f0, f1, f2, f3, _⟩ := H7.out
      have h8 := St.own ((((St.put0 H7.out r40).put1 r41).put2 r42).put3 r43)
      go_wp2
      go_ret
      exact ⟨ret_int (congrArg nu HF.out.symm), Below.grown hb0 h8 hb0.size (fun k hk => by cases hk; exact Nat.le_refl _)⟩

end Go.Proofs.Ytopfmibnabkbiaa
