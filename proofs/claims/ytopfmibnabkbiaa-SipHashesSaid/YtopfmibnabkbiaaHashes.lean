/-
  The walk of SipHashes.
-/
import Derived.Test.YtopfmibnabkbiaaMasks
namespace Go.Proofs.Ytopfmibnabkbiaa
open Go.RowKit
set_option linter.unusedVariables false
attribute [local irreducible] le
attribute [local go_sem] add_nu xor_nu and_nu or_nu

theorem of_bad0 (a : Option Addr) (n cap : Nat) (w : World) (h : ((n : Int) != 16) = true) :
    Calls Try.prog 11 #[.slice a n cap] w fun e w' => e = .returned (.tuple #[.agg #[.int .u64 0, .int .u64 0], .bool false]) ∧ Below w.heap.size w w' :=
  (of_bad a n cap w h).mono fun _ _ ⟨he, hb⟩ => ⟨by rw [he]; unfold keyV; rw [nu_zero], hb⟩

/-- the last statement's loads: the hasher's box, and the key made of p -/
def S2 (k0 k1 m : UInt64) (u v : Int) (B g : Nat) (W : World) : Prop :=
  W.cell? ⟨B, 0, none⟩ = some (.int .u64 (nu k0)) ∧ W.cell? ⟨B, 1, none⟩ = some (.int .u64 (nu k1)) ∧ W.cell? ⟨B, 2, none⟩ = some (.int .u64 (nu m)) ∧ B < W.heap.size ∧
  W.cell? ⟨g, 0, none⟩ = some (.int .u64 u) ∧ W.cell? ⟨g, 1, none⟩ = some (.int .u64 v) ∧ g < W.heap.size
theorem S2.next {k0 k1 m : UInt64} {u v : Int} {B g : Nat} {W w' : World} (h : S2 k0 k1 m u v B g W) (hb : Below W.heap.size W w') : S2 k0 k1 m u v B g w' := by
  obtain ⟨a1, a2, a3, a4, b1, b2, b3⟩ := h
  exact ⟨(hb.cell (by exact a4)).trans a1, (hb.cell (by exact a4)).trans a2, (hb.cell (by exact a4)).trans a3, Nat.lt_of_lt_of_le a4 hb.size,
    (hb.cell (by exact b3)).trans b1, (hb.cell (by exact b3)).trans b2, Nat.lt_of_lt_of_le b3 hb.size⟩

theorem hash2 (k0 k1 m j Q : UInt64) (u v : Int) (B g : Nat) (s : ByteArray) (w W : World) (hs : s.size ≤ 1000) (hq : Hid (sumS k0 k1 s.data.toList = Q))
    (h : S2 k0 k1 m u v B g W) (ho : Wo w W) :
    Calls Try.prog 10 #[.agg #[.int .u64 (nu k0), .int .u64 (nu k1), .int .u64 (nu j)], .string s] W fun e w' => e = .returned (.int .u64 (nu (Q &&& j))) ∧ S2 k0 k1 m u v B g w' ∧ Wo w w' :=
  (hash_any k0 k1 j s W hs).mono fun _ _ ⟨he, hb⟩ => ⟨hq.out ▸ he, h.next hb, Below.trans ho (hb.mono ho.size)⟩
theorem full2 (k0 k1 m : UInt64) (u v : Int) (B g : Nat) (w W : World) (h : S2 k0 k1 m u v B g W) (ho : Wo w W) :
    Calls Try.prog 12 #[.agg #[.int .u64 (nu k0), .int .u64 (nu k1)]] W fun e w' => e = .returned (.agg #[.int .u64 (nu k0), .int .u64 (nu k1), .int .u64 (nu 18446744073709551615)]) ∧ S2 k0 k1 m u v B g w' ∧ Wo w w' :=
  (full_any k0 k1 W).mono fun _ _ ⟨he, hb⟩ => ⟨he, h.next hb, Below.trans ho (hb.mono ho.size)⟩

theorem all_and (q : UInt64) : q &&& 18446744073709551615 = q := by
  apply UInt64.toNat_inj.1
  rw [UInt64.toNat_and]
  have e : (18446744073709551615 : UInt64).toNat = 2 ^ 64 - 1 := rfl
  rw [e, Nat.and_two_pow_sub_one_eq_mod]
  exact Nat.mod_eq_of_lt q.toNat_lt

/-- what is gathered of eight bytes behind i of them -/
def gath (m : List UInt8) (i : Nat) : Nat := le (m.take i) * 256 ^ (8 - i)
theorem le_nil' : le [] = 0 := by unfold le; rfl
theorem le_cons' (c : UInt8) (t : List UInt8) : le (c :: t) = c.toNat + 256 * le t := by
  conv => lhs; unfold le
theorem le_snoc (m : List UInt8) (c : UInt8) : le (m ++ [c]) = le m + c.toNat * 256 ^ m.length := by
  induction m with
  | nil => simp [le_cons', le_nil']
  | cons d t ih =>
    rw [List.cons_append, le_cons', le_cons', ih, List.length_cons, Nat.pow_succ, Nat.mul_add, ← Nat.add_assoc]
    congr 1
    rw [Nat.mul_comm 256 (c.toNat * 256 ^ t.length), Nat.mul_assoc]
theorem gath_step (m : List UInt8) (i : Nat) (hi : i < 8) (h : i < m.length) : gath m (i + 1) = gath m i / 256 + m[i].toNat * 72057594037927936 := by
  unfold gath
  rw [List.take_succ_eq_append_getElem h, le_snoc, List.length_take, Nat.min_eq_left (by omega)]
  have e : 8 - i = (7 - i) + 1 := by omega
  have e7 : 8 - (i + 1) = 7 - i := by omega
  have e8 : (256 : Nat) ^ i * 256 ^ (7 - i) = 72057594037927936 := by
    rw [← Nat.pow_add, show i + (7 - i) = 7 from by omega]
  rw [e, e7, Nat.pow_succ, ← Nat.mul_assoc, Nat.mul_div_cancel _ (by decide), Nat.add_mul, Nat.mul_assoc m[i].toNat, e8]
theorem gath_zero (m : List UInt8) : gath m 0 = 0 := by unfold gath; simp [le_nil']
theorem gath_full (m : List UInt8) (h : m.length = 8) : gath m 8 = le m := by
  unfold gath; rw [List.take_of_length_le (by omega)]; simp
theorem gath_lt (m : List UInt8) (i : Nat) (hi : i ≤ 8) : gath m i < 18446744073709551616 := by
  unfold gath
  have h1 := le_lt (m.take i)
  have h2 : (256 : Nat) ^ (m.take i).length ≤ 256 ^ i := Nat.pow_le_pow_right (by decide) (by rw [List.length_take]; omega)
  have h3 : (256 : Nat) ^ i * 256 ^ (8 - i) = 18446744073709551616 := by
    rw [← Nat.pow_add, show i + (8 - i) = 8 from by omega]
  have h4 : le (m.take i) * 256 ^ (8 - i) < 256 ^ i * 256 ^ (8 - i) := Nat.mul_lt_mul_of_pos_right (Nat.lt_of_lt_of_le h1 h2) (Nat.pow_pos (by decide))
  omega
attribute [irreducible] gath

theorem wv_of (m : List UInt8) (h : m.length ≤ 8) : nu (wv (bytesOf m)) = (le m : Int) := by
  have e : (bytesOf m).data.toList = m := rfl
  unfold wv
  rw [e, W_nu _ (le_lt8 m h)]

set_option maxRecDepth 100000 in
set_option maxHeartbeats 4000000 in
/-- where p is no sixteen bytes -/
theorem hashes_bad (k0 k1 m : UInt64) (s : ByteArray) (a : Option Addr) (n cap : Nat) (w : World) (hn : n ≠ 16) (hmax : n ≤ 140737488355328) :
    Calls Try.prog 6 #[.agg #[.int .u64 (nu k0), .int .u64 (nu k1), .int .u64 (nu m)], .string s, .slice a n cap] w fun e w' => e = .returned (.bool true) ∧ Below w.heap.size w w' := by
  have hne : ((n : Int) != 16) = true := by rw [bne_iff_ne]; omega
  have heq : ((n : Int) == 16) = false := beq_eq_false_iff_ne.2 (by omega)
  have hb1 : Below w.heap.size w (w.alloc (.cells #[.int .u64 (nu k0), .int .u64 (nu k1), .int .u64 (nu m)] 33)) := (Below.refl _ _).alloc (Nat.le_refl _) _
  have hh : Hs k0 k1 m w.heap.size (w.alloc (.cells #[.int .u64 (nu k0), .int .u64 (nu k1), .int .u64 (nu m)] 33)) := ⟨by go_simp, by go_simp, by go_simp, by simp⟩
  go_enter Try.func6, Try.ntmps6
  go_wp2_with fail
  generalize w.alloc (.cells #[.int .u64 (nu k0), .int .u64 (nu k1), .int .u64 (nu m)] 33) = W1 at *
  refine (awake_any _).mono ?_
  rintro e w2 ⟨rfl, hb2⟩
  have hh2 := hh.next hb2
  have hw2 := hb1.trans (hb2.mono hb1.size)
  clear hh hb1 hb2
  go_upto_if 17 with fail
  go_cut [1] (fun u1 wx => ∃ z : ByteArray, u1 = .string z ∧ z.size ≤ 100 ∧ wx = w2)
  case first =>
    by_cases h60 : 100 < s.size
    · go_wp2_with fail
      go_meet
      exact ⟨_, rfl, by rw [ByteArray.size_extract]; omega, rfl⟩
    · go_wp2_with fail
      go_meet
      exact ⟨_, rfl, by omega, rfl⟩
  case rest =>
    obtain ⟨z, rfl, hz, rfl⟩ := hcut
    have hzs : z.size ≤ 1000 := by omega
    generalize hQ : sumS k0 k1 z.data.toList = Q
    have HQ := Lib.hid hQ
    clear hQ
    have H2 := Lib.hid hh2
    obtain ⟨c0, c1, c2, cz⟩ := hh2
    go_wp2_with fail
    refine (rsum_any k0 k1 z _ hzs).mono ?_
    rintro e w3 ⟨rfl, hb3⟩
    rw [HQ.out]
    have hh3 := H2.out.next hb3
    have hw3 := hw2.trans (hb3.mono hw2.size)
    clear H2 c0 c1 c2 cz hb3 hw2
    go_wp2_with fail
    refine (of_bad0 a n cap _ hne).mono ?_
    rintro e w4 ⟨rfl, hb4⟩
    have hh4 := hh3.next hb4
    have hw4 := hw3.trans (hb4.mono hw3.size)
    clear hb4 hw3 hh3
    have hss : S2 k0 k1 m 0 0 w.heap.size w4.heap.size (w4.alloc (.cells #[.int .u64 0, .int .u64 0] 24)) := by
      obtain ⟨a1, a2, a3, a4⟩ := hh4.next (w' := w4.alloc (.cells #[.int .u64 0, .int .u64 0] 24)) ((Below.refl _ _).alloc (Nat.le_refl _) _)
      exact ⟨a1, a2, a3, a4, by go_simp, by go_simp, by simp⟩
    have hwo : Wo w (w4.alloc (.cells #[.int .u64 0, .int .u64 0] 24)) := hw4.alloc hw4.size _
    go_wp2_with fail
    generalize w4.alloc (.cells #[.int .u64 0, .int .u64 0] 24) = W6 at *
    generalize w4.heap.size = g at *
    clear hh4 hw4
    go_loop [10, 11, 49] (fun x y i => ∃ k : Nat, i = .int .i64 k ∧ k ≤ n ∧ x = .int .u64 0 ∧ y = .int .u64 0) (fun _ _ i => n - (intOf i).toNat)
    case atStart => exact ⟨0, rfl, by omega, rfl, rfl⟩
    case round =>
      obtain ⟨k, rfl, hk, rfl, rfl⟩ := hrel
      by_cases hlt : k < n
      · go_wp2_with fail
        go_round
        case rel => exact ⟨k + 1, by go_num, by omega, rfl, rfl⟩
        case measure => simp [intOf]; omega
      · have e1 : (nu (Q &&& 18446744073709551615) == nu Q) = true := by rw [all_and]; simp
        obtain ⟨a1, a2, a3, a4, b1, b2, b3⟩ := hss
        go_wp2_with fail
        go_region_held3 (fun W => W.cell? ⟨w.heap.size, 0, none⟩ = some (.int .u64 (nu k0)) ∧ W.cell? ⟨w.heap.size, 1, none⟩ = some (.int .u64 (nu k1)) ∧ W.cell? ⟨w.heap.size, 2, none⟩ = some (.int .u64 (nu m)) ∧ w.heap.size < W.heap.size ∧
            W.cell? ⟨g, 0, none⟩ = some (.int .u64 0) ∧ W.cell? ⟨g, 1, none⟩ = some (.int .u64 0) ∧ g < W.heap.size ∧ Wo w W)
          (first | (go_keep; done) | (refine ⟨?_, ?_, ?_, ?_, ?_, ?_, ?_, ?_⟩ <;> first | assumption | exact Below.drew (by assumption)))
          (first
            | (go_at_call 10; refine (hash2 k0 k1 m _ Q 0 0 w.heap.size g z w _ hzs HQ ?_ ?_).mono ?_; (refine ⟨?_, ?_, ?_, ?_, ?_, ?_, ?_⟩ <;> first | assumption | (simp [*]; done)); (first | assumption | exact Below.drew (by assumption)); rintro e w3 ⟨rfl, ⟨a1, a2, a3, a4, b1, b2, b3⟩, hwo⟩)
            | (go_at_call 12; refine (full2 k0 k1 m 0 0 w.heap.size g w _ ?_ ?_).mono ?_; (refine ⟨?_, ?_, ?_, ?_, ?_, ?_, ?_⟩ <;> first | assumption | (simp [*]; done)); (first | assumption | exact Below.drew (by assumption)); rintro e w3 ⟨rfl, ⟨a1, a2, a3, a4, b1, b2, b3⟩, hwo⟩))
        go_wp2
        go_ret
        exact ⟨rfl, hwo⟩

set_option maxRecDepth 100000 in
set_option maxHeartbeats 4000000 in
/-- where p is sixteen bytes -/
theorem hashes_16 (k0 k1 m : UInt64) (s : ByteArray) (b off cap : Nat) (l : List UInt8) (w : World) (hb : b < w.heap.size) (hl : l.length = 16) (hcap : 16 ≤ cap)
    (hc : ∀ j (hj : j < l.length), w.cell? ⟨b, off + j, none⟩ = some (.int .u8 (l[j].toNat : Int))) :
    Calls Try.prog 6 #[.agg #[.int .u64 (nu k0), .int .u64 (nu k1), .int .u64 (nu m)], .string s, .slice (some ⟨b, off, none⟩) 16 cap] w fun e w' => e = .returned (.bool true) ∧ Below w.heap.size w w' := by
  have HC := Lib.hid hc
  clear hc
  have hb1 : Below w.heap.size w (w.alloc (.cells #[.int .u64 (nu k0), .int .u64 (nu k1), .int .u64 (nu m)] 33)) := (Below.refl _ _).alloc (Nat.le_refl _) _
  have hh : Hs k0 k1 m w.heap.size (w.alloc (.cells #[.int .u64 (nu k0), .int .u64 (nu k1), .int .u64 (nu m)] 33)) := ⟨by go_simp, by go_simp, by go_simp, by simp⟩
  go_enter Try.func6, Try.ntmps6
  go_wp2_with fail
  generalize w.alloc (.cells #[.int .u64 (nu k0), .int .u64 (nu k1), .int .u64 (nu m)] 33) = W1 at *
  refine (awake_any _).mono ?_
  rintro e w2 ⟨rfl, hb2⟩
  have hh2 := hh.next hb2
  have hw2 := hb1.trans (hb2.mono hb1.size)
  clear hh hb1 hb2
  go_upto_if 17 with fail
  go_cut [1] (fun u1 wx => ∃ z : ByteArray, u1 = .string z ∧ z.size ≤ 100 ∧ wx = w2)
  case first =>
    by_cases h60 : 100 < s.size
    · go_wp2_with fail
      go_meet
      exact ⟨_, rfl, by rw [ByteArray.size_extract]; omega, rfl⟩
    · go_wp2_with fail
      go_meet
      exact ⟨_, rfl, by omega, rfl⟩
  case rest =>
    obtain ⟨z, rfl, hz, rfl⟩ := hcut
    have hzs : z.size ≤ 1000 := by omega
    generalize hQ : sumS k0 k1 z.data.toList = Q
    have HQ := Lib.hid hQ
    clear hQ
    have H2 := Lib.hid hh2
    obtain ⟨c0, c1, c2, cz⟩ := hh2
    go_wp2_with fail
    refine (rsum_any k0 k1 z _ hzs).mono ?_
    rintro e w3 ⟨rfl, hb3⟩
    rw [HQ.out]
    have hh3 := H2.out.next hb3
    have hw3 := hw2.trans (hb3.mono hw2.size)
    clear H2 c0 c1 c2 cz hb3 hw2
    go_wp2_with fail
    have hof := of_16 b off cap l w3 (Nat.lt_of_lt_of_le hb hw3.size) hl hcap (fun j hj => (hw3.cell (by exact hb)).trans (HC.out j hj))
    have HO := Lib.hid hof
    clear hof
    have hk0 := wv_of (l.take 8) (by rw [List.length_take]; omega)
    have hk1 := wv_of (l.drop 8) (by rw [List.length_drop]; omega)
    have HK := Lib.hid (And.intro hk0 hk1)
    clear hk0 hk1
    generalize wv (bytesOf (l.take 8)) = q0 at *
    generalize wv (bytesOf (l.drop 8)) = q1 at *
    refine (HO.out).mono ?_
    clear HO
    rintro e w4 ⟨rfl, hb4⟩
    unfold keyV
    have hh4 := hh3.next hb4
    have hw4 := hw3.trans (hb4.mono hw3.size)
    clear hb4 hw3 hh3
    have hss : S2 k0 k1 m (nu q0) (nu q1) w.heap.size w4.heap.size (w4.alloc (.cells #[.int .u64 (nu q0), .int .u64 (nu q1)] 24)) := by
      obtain ⟨a1, a2, a3, a4⟩ := hh4.next (w' := w4.alloc (.cells #[.int .u64 (nu q0), .int .u64 (nu q1)] 24)) ((Below.refl _ _).alloc (Nat.le_refl _) _)
      exact ⟨a1, a2, a3, a4, by go_simp, by go_simp, by simp⟩
    have hwo : Wo w (w4.alloc (.cells #[.int .u64 (nu q0), .int .u64 (nu q1)] 24)) := hw4.alloc hw4.size _
    go_wp2_with fail
    generalize w4.alloc (.cells #[.int .u64 (nu q0), .int .u64 (nu q1)] 24) = W6 at *
    generalize w4.heap.size = g at *
    clear hh4 hw4
    have HC6 : Hid (∀ j (hj : j < l.length), W6.cell? ⟨b, off + j, none⟩ = some (.int .u8 (l[j].toNat : Int))) := Lib.hid (fun j hj => (Below.cell hwo (by exact hb)).trans (HC.out j hj))
    clear HC
    go_loop [10, 11, 49] (fun x y i => ∃ k u v : Nat, i = .int .i64 k ∧ k ≤ 16 ∧ x = .int .u64 u ∧ y = .int .u64 v ∧ Hid (u = gath (l.take 8) (min k 8) ∧ v = gath (l.drop 8) (k - 8))) (fun _ _ i => 16 - (intOf i).toNat)
    case atStart => exact ⟨0, 0, 0, rfl, by omega, rfl, rfl, Lib.hid ⟨(gath_zero _).symm, (gath_zero _).symm⟩⟩
    case round =>
      obtain ⟨k, u, v, rfl, hk, rfl, rfl, HR⟩ := hrel
      have hu : u < 18446744073709551616 := by rw [HR.out.1]; exact gath_lt _ _ (by omega)
      have hv : v < 18446744073709551616 := by rw [HR.out.2]; exact gath_lt _ _ (by omega)
      by_cases hlt : k < 16
      · have ck := HC6.out k (by omega)
        have hcb := (l[k]'(by omega)).toNat_lt
        have HB : Hid (l[k]'(by omega) = (l[k]'(by omega))) := Lib.hid rfl
        generalize hcc : (l[k]'(by omega)).toNat = c at ck hcb
        have HCC := Lib.hid hcc
        clear hcc HB
        by_cases h8 : k < 8
        · have d8 : decide ((k : Int) < 8) = true := by simp; omega
          go_wp2_with fail
          go_round
          case rel =>
            refine ⟨k + 1, u / 256 + c * 72057594037927936, v, by go_num, by omega, congrArg (Value.int .u64) (by omega), rfl, Lib.hid ⟨?_, ?_⟩⟩
            · have h1 := HR.out.1
              rw [Nat.min_eq_left (by omega)] at h1
              have h2 := gath_step (l.take 8) k h8 (by rw [List.length_take]; omega)
              rw [List.getElem_take, HCC.out, ← h1] at h2
              rw [Nat.min_eq_left (by omega), h2]
            · have h1 := HR.out.2
              rw [show k + 1 - 8 = k - 8 from by omega]; exact h1
          case measure => simp [intOf]; omega
        · have d8 : decide ((k : Int) < 8) = false := by simp; omega
          go_wp2_with fail
          go_round
          case rel =>
            refine ⟨k + 1, u, v / 256 + c * 72057594037927936, by go_num, by omega, rfl, congrArg (Value.int .u64) (by omega), Lib.hid ⟨?_, ?_⟩⟩
            · have h1 := HR.out.1
              rw [Nat.min_eq_right (by omega)] at h1 ⊢; exact h1
            · have h1 := HR.out.2
              have h2 := gath_step (l.drop 8) (k - 8) (by omega) (by rw [List.length_drop]; omega)
              have h3 : (l.drop 8)[k - 8]'(by rw [List.length_drop]; omega) = l[k]'(by omega) := by
                rw [List.getElem_drop]; congr 1; omega
              rw [h3, HCC.out, ← h1] at h2
              rw [show k + 1 - 8 = k - 8 + 1 from by omega, h2]
          case measure => simp [intOf]; omega
      · have hk16 : k = 16 := by omega
        subst hk16
        have e2 : (nu q0 == (u : Int)) = true := by
          rw [HK.out.1, HR.out.1, show min 16 8 = 8 from rfl, gath_full (l.take 8) (by rw [List.length_take]; omega)]; simp
        have e3 : (nu q1 == (v : Int)) = true := by
          rw [HK.out.2, HR.out.2, show 16 - 8 = 8 from rfl, gath_full (l.drop 8) (by rw [List.length_drop]; omega)]; simp
        have e1 : (nu (Q &&& 18446744073709551615) == nu Q) = true := by rw [all_and]; simp
        obtain ⟨a1, a2, a3, a4, b1, b2, b3⟩ := hss
        go_wp2_with fail
        go_region_held3 (fun W => W.cell? ⟨w.heap.size, 0, none⟩ = some (.int .u64 (nu k0)) ∧ W.cell? ⟨w.heap.size, 1, none⟩ = some (.int .u64 (nu k1)) ∧ W.cell? ⟨w.heap.size, 2, none⟩ = some (.int .u64 (nu m)) ∧ w.heap.size < W.heap.size ∧
            W.cell? ⟨g, 0, none⟩ = some (.int .u64 (nu q0)) ∧ W.cell? ⟨g, 1, none⟩ = some (.int .u64 (nu q1)) ∧ g < W.heap.size ∧ Wo w W)
          (first | (go_keep; done) | (refine ⟨?_, ?_, ?_, ?_, ?_, ?_, ?_, ?_⟩ <;> first | assumption | exact Below.drew (by assumption)))
          (first
            | (go_at_call 10; refine (hash2 k0 k1 m _ Q (nu q0) (nu q1) w.heap.size g z w _ hzs HQ ?_ ?_).mono ?_; (refine ⟨?_, ?_, ?_, ?_, ?_, ?_, ?_⟩ <;> first | assumption | (simp [*]; done)); (first | assumption | exact Below.drew (by assumption)); rintro e w3 ⟨rfl, ⟨a1, a2, a3, a4, b1, b2, b3⟩, hwo⟩)
            | (go_at_call 12; refine (full2 k0 k1 m (nu q0) (nu q1) w.heap.size g w _ ?_ ?_).mono ?_; (refine ⟨?_, ?_, ?_, ?_, ?_, ?_, ?_⟩ <;> first | assumption | (simp [*]; done)); (first | assumption | exact Below.drew (by assumption)); rintro e w3 ⟨rfl, ⟨a1, a2, a3, a4, b1, b2, b3⟩, hwo⟩))
        go_wp2
        go_ret
        exact ⟨rfl, hwo⟩

end Go.Proofs.Ytopfmibnabkbiaa
