/-
  The walk of SipMasks.
-/
import Derived.Test.YtopfmibnabkbiaaTails
import Derived.Deep.DeepCutAuto
namespace Go.Proofs.Ytopfmibnabkbiaa
open Go.RowKit
set_option linter.unusedVariables false
attribute [local irreducible] le
attribute [local go_sem] add_nu xor_nu and_nu or_nu

/-- a hasher in block g -/
def Hs (k0 k1 m : UInt64) (g : Nat) (wx : World) : Prop :=
  wx.cell? ⟨g, 0, none⟩ = some (.int .u64 (nu k0)) ∧ wx.cell? ⟨g, 1, none⟩ = some (.int .u64 (nu k1)) ∧ wx.cell? ⟨g, 2, none⟩ = some (.int .u64 (nu m)) ∧ g < wx.heap.size

theorem andnot_zero (x y : UInt64) : bits .andNot .u64 (nu (x &&& y)) (nu y) = 0 := by
  have hy := y.toNat_lt
  rw [nu_eq, nu_eq, u64_andNot_nat _ _ (UInt64.toNat_lt _) hy, UInt64.toNat_and]
  have e : x.toNat &&& y.toNat &&& (18446744073709551615 - y.toNat) = 0 := by
    apply Nat.eq_of_testBit_eq
    intro i
    have h2 := Nat.testBit_two_pow_sub_succ (n := 64) hy i
    have e2 : 2 ^ 64 - (y.toNat + 1) = 18446744073709551615 - y.toNat := by omega
    rw [e2] at h2
    rw [Nat.testBit_and, Nat.testBit_and, h2, Nat.zero_testBit]
    cases y.toNat.testBit i <;> simp
  rw [e]; rfl
theorem and_both (q a b : UInt64) : q &&& (a &&& b) = (q &&& a) &&& (q &&& b) := by
  apply UInt64.toNat_inj.1
  rw [UInt64.toNat_and, UInt64.toNat_and, UInt64.toNat_and, UInt64.toNat_and, UInt64.toNat_and]
  apply Nat.eq_of_testBit_eq
  intro i
  simp only [Nat.testBit_and]
  cases q.toNat.testBit i <;> simp
theorem or_both (q a b : UInt64) : (q &&& a) ||| (q &&& b) = q &&& (a ||| b) := by
  apply UInt64.toNat_inj.1
  rw [UInt64.toNat_or, UInt64.toNat_and, UInt64.toNat_and, UInt64.toNat_and, UInt64.toNat_or]
  apply Nat.eq_of_testBit_eq
  intro i
  simp only [Nat.testBit_and, Nat.testBit_or]
  cases q.toNat.testBit i <;> simp
theorem Hs.next {k0 k1 m : UInt64} {g : Nat} {W w' : World} (h : Hs k0 k1 m g W) (hb : Below W.heap.size W w') : Hs k0 k1 m g w' :=
  ⟨(hb.cell (by exact h.2.2.2)).trans h.1, (hb.cell (by exact h.2.2.2)).trans h.2.1, (hb.cell (by exact h.2.2.2)).trans h.2.2.1, Nat.lt_of_lt_of_le h.2.2.2 hb.size⟩

theorem keepB {w2 W : World} {g : Nat} {u v : Value} (c0 : w2.cell? ⟨g, 0, none⟩ = some u) (c1 : w2.cell? ⟨g, 1, none⟩ = some v) (cz : g < w2.heap.size) (hb : Below w2.heap.size w2 W) :
    W.cell? ⟨g, 0, none⟩ = some u ∧ W.cell? ⟨g, 1, none⟩ = some v := ⟨(hb.cell (by exact cz)).trans c0, (hb.cell (by exact cz)).trans c1⟩

/-- all that the last statement loads -/
def SS (k0 k1 m1 m2 m3 m4 : UInt64) (B g1 g2 g3 g4 : Nat) (W : World) : Prop :=
  W.cell? ⟨g1, 0, none⟩ = some (.int .u64 (nu k0)) ∧ W.cell? ⟨g1, 1, none⟩ = some (.int .u64 (nu k1)) ∧ W.cell? ⟨g1, 2, none⟩ = some (.int .u64 (nu m1)) ∧ g1 < W.heap.size ∧
  W.cell? ⟨g2, 0, none⟩ = some (.int .u64 (nu k0)) ∧ W.cell? ⟨g2, 1, none⟩ = some (.int .u64 (nu k1)) ∧ W.cell? ⟨g2, 2, none⟩ = some (.int .u64 (nu m2)) ∧ g2 < W.heap.size ∧
  W.cell? ⟨g3, 0, none⟩ = some (.int .u64 (nu k0)) ∧ W.cell? ⟨g3, 1, none⟩ = some (.int .u64 (nu k1)) ∧ W.cell? ⟨g3, 2, none⟩ = some (.int .u64 (nu m3)) ∧ g3 < W.heap.size ∧
  W.cell? ⟨g4, 0, none⟩ = some (.int .u64 (nu k0)) ∧ W.cell? ⟨g4, 1, none⟩ = some (.int .u64 (nu k1)) ∧ W.cell? ⟨g4, 2, none⟩ = some (.int .u64 (nu m4)) ∧ g4 < W.heap.size ∧
  W.cell? ⟨B, 0, none⟩ = some (.int .u64 (nu k0)) ∧ W.cell? ⟨B, 1, none⟩ = some (.int .u64 (nu k1)) ∧ B < W.heap.size
theorem SS.next {k0 k1 m1 m2 m3 m4 : UInt64} {B g1 g2 g3 g4 : Nat} {W w' : World} (h : SS k0 k1 m1 m2 m3 m4 B g1 g2 g3 g4 W) (hb : Below W.heap.size W w') : SS k0 k1 m1 m2 m3 m4 B g1 g2 g3 g4 w' := by
  obtain ⟨a1, a2, a3, a4, b1, b2, b3, b4, c1, c2, c3, c4, d1, d2, d3, d4, e1, e2, e3⟩ := h
  exact ⟨(hb.cell (by exact a4)).trans a1, (hb.cell (by exact a4)).trans a2, (hb.cell (by exact a4)).trans a3, Nat.lt_of_lt_of_le a4 hb.size,
    (hb.cell (by exact b4)).trans b1, (hb.cell (by exact b4)).trans b2, (hb.cell (by exact b4)).trans b3, Nat.lt_of_lt_of_le b4 hb.size,
    (hb.cell (by exact c4)).trans c1, (hb.cell (by exact c4)).trans c2, (hb.cell (by exact c4)).trans c3, Nat.lt_of_lt_of_le c4 hb.size,
    (hb.cell (by exact d4)).trans d1, (hb.cell (by exact d4)).trans d2, (hb.cell (by exact d4)).trans d3, Nat.lt_of_lt_of_le d4 hb.size,
    (hb.cell (by exact e3)).trans e1, (hb.cell (by exact e3)).trans e2, Nat.lt_of_lt_of_le e3 hb.size⟩

/-- what the world must show of the one in which the law began -/
def Wo (w W : World) : Prop := Below w.heap.size w W

theorem hashX (k0 k1 m m1 m2 m3 m4 Q : UInt64) (B g1 g2 g3 g4 : Nat) (s : ByteArray) (w W : World) (hs : s.size ≤ 1000) (hq : Hid (sumS k0 k1 s.data.toList = Q))
    (h : SS k0 k1 m1 m2 m3 m4 B g1 g2 g3 g4 W) (ho : Wo w W) :
    Calls Try.prog 10 #[.agg #[.int .u64 (nu k0), .int .u64 (nu k1), .int .u64 (nu m)], .string s] W fun e w' => e = .returned (.int .u64 (nu (Q &&& m))) ∧ SS k0 k1 m1 m2 m3 m4 B g1 g2 g3 g4 w' ∧ Wo w w' :=
  (hash_any k0 k1 m s W hs).mono fun _ _ ⟨he, hb⟩ => ⟨hq.out ▸ he, h.next hb, Below.trans ho (hb.mono ho.size)⟩

set_option maxRecDepth 100000 in
set_option maxHeartbeats 4000000 in
theorem masks_walk (k0 k1 a b : UInt64) (s : ByteArray) (w : World) :
    Calls Try.prog 5 #[.agg #[.int .u64 (nu k0), .int .u64 (nu k1)], .int .u64 (nu a), .int .u64 (nu b), .string s] w fun e w' => e = .returned (.bool true) ∧ Below w.heap.size w w' := by
  have hbx := Bx.start k0 k1 w
  go_enter Try.func5, Try.ntmps5
  go_wp2_with fail
  generalize w.alloc (.cells #[.int .u64 (nu k0), .int .u64 (nu k1)] 24) = W1 at *
  refine (awake_any _).mono ?_
  rintro e w2 ⟨rfl, hb2⟩
  have hbx2 := hbx.next hb2
  clear hbx hb2
  go_upto_region 3 with fail
  go_cut [3] (fun u3 wx => ∃ z : ByteArray, u3 = .string z ∧ z.size ≤ 60 ∧ wx = w2)
  case first =>
    by_cases h60 : 60 < s.size
    · go_wp2_with fail
      go_meet
      exact ⟨_, rfl, by rw [ByteArray.size_extract]; omega, rfl⟩
    · go_wp2_with fail
      go_meet
      exact ⟨_, rfl, by omega, rfl⟩
  case rest =>
    obtain ⟨z, rfl, hz60, rfl⟩ := hcut
    go_upto_region 4 with fail
    have HB := Lib.hid hbx2
    obtain ⟨⟨c0, c1, cz⟩, hbw⟩ := hbx2
    go_cut [9, 10, 11] (fun u9 u10 u11 wx => ∃ g1 g2 g3 : Nat, u9 = .pointer (some ⟨g1, 0, none⟩) ∧ u10 = .pointer (some ⟨g2, 0, none⟩) ∧ u11 = .pointer (some ⟨g3, 0, none⟩) ∧ Hs k0 k1 a g1 wx ∧ Hs k0 k1 b g2 wx ∧ Hs k0 k1 (a &&& b) g3 wx ∧ Bx k0 k1 w wx)
    case first =>
      go_region_held3 (fun w' => w'.cell? ⟨w.heap.size, 0, none⟩ = some (.int .u64 (nu k0)) ∧ w'.cell? ⟨w.heap.size, 1, none⟩ = some (.int .u64 (nu k1)))
        (first | (go_keep; done) | exact keepB c0 c1 cz (by repeat (first | exact Below.refl _ _ | apply Below.drew | (refine Below.alloc ?_ (by simp; try omega) _) | (refine Below.setCell ?_ (by simp; try omega) _))))
        (fail)
      all_goals (go_wp2_with fail; go_meet)
      all_goals exact ⟨_, _, _, rfl, rfl, rfl, (by unfold Hs; refine ⟨?_, ?_, ?_, ?_⟩ <;> go_simp), (by unfold Hs; refine ⟨?_, ?_, ?_, ?_⟩ <;> go_simp), (by unfold Hs; refine ⟨?_, ?_, ?_, ?_⟩ <;> go_simp), HB.out.next ((((Below.refl _ _).alloc (by simp) _).alloc (by simp; try omega) _).alloc (by simp; try omega) _).drew⟩
    case rest =>
      obtain ⟨g1, g2, g3, rfl, rfl, rfl, h1, h2, h3, hx⟩ := hcut
      clear HB c0 c1 cz hbw
      have H1 := Lib.hid h1
      have H2 := Lib.hid h2
      have H3 := Lib.hid h3
      have HX := Lib.hid hx
      obtain ⟨⟨c0, c1, cz⟩, hbw⟩ := hx
      clear h1 h2 h3
      have hss : SS k0 k1 a b (a &&& b) 0 w.heap.size g1 g2 g3 wc.heap.size (wc.alloc (.cells #[.int .u64 (nu k0), .int .u64 (nu k1), .int .u64 0] 33)) := by
        have hb : Below wc.heap.size wc (wc.alloc (.cells #[.int .u64 (nu k0), .int .u64 (nu k1), .int .u64 0] 33)) := (Below.refl _ _).alloc (Nat.le_refl _) _
        obtain ⟨a1, a2, a3, a4⟩ := H1.out.next hb
        obtain ⟨b1, b2, b3, b4⟩ := H2.out.next hb
        obtain ⟨d1, d2, d3, d4⟩ := H3.out.next hb
        obtain ⟨⟨e1, e2, e3⟩, _⟩ := HX.out.next hb
        exact ⟨a1, a2, a3, a4, b1, b2, b3, b4, d1, d2, d3, d4, by go_simp, by go_simp, by rw [nu_zero]; go_simp, by simp, e1, e2, e3⟩
      have hwo : Wo w (wc.alloc (.cells #[.int .u64 (nu k0), .int .u64 (nu k1), .int .u64 0] 33)) := (HX.out.next ((Below.refl _ _).alloc (Nat.le_refl _) _)).2
      clear H1 H2 H3 HX
      go_wp2_with fail
      clear c0 c1 cz hbw
      generalize wc.alloc (.cells #[.int .u64 (nu k0), .int .u64 (nu k1), .int .u64 0] 33) = W6 at *
      have hzs : z.size ≤ 1000 := by omega
      generalize hQ : sumS k0 k1 z.data.toList = Q
      have HQ := Lib.hid hQ
      clear hQ
      have e1 : (nu (Q &&& (a &&& b)) == nu ((Q &&& a) &&& (Q &&& b))) = true := by rw [and_both]; simp
      have e2 : (nu (Q &&& 0) == 0) = true := by rw [UInt64.and_zero, nu_zero]; rfl
      have e2b : (nu 0 == 0) = true := by rw [nu_zero]; rfl
      have e3 : bits .andNot .u64 (nu (Q &&& a)) (nu a) = 0 := andnot_zero _ _
      have e4 : (nu ((Q &&& a) ||| (Q &&& b)) == nu (Q &&& (a ||| b))) = true := by rw [or_both]; simp
      obtain ⟨a1, a2, a3, a4, b1, b2, b3, b4, d1, d2, d3, d4, f1, f2, f3, f4, h1, h2, h3⟩ := hss
      generalize wc.heap.size = g4 at *
      go_region_held3 (fun W => W.cell? ⟨g1, 0, none⟩ = some (.int .u64 (nu k0)) ∧ W.cell? ⟨g1, 1, none⟩ = some (.int .u64 (nu k1)) ∧ W.cell? ⟨g1, 2, none⟩ = some (.int .u64 (nu a)) ∧ g1 < W.heap.size ∧
          W.cell? ⟨g2, 0, none⟩ = some (.int .u64 (nu k0)) ∧ W.cell? ⟨g2, 1, none⟩ = some (.int .u64 (nu k1)) ∧ W.cell? ⟨g2, 2, none⟩ = some (.int .u64 (nu b)) ∧ g2 < W.heap.size ∧
          W.cell? ⟨g3, 0, none⟩ = some (.int .u64 (nu k0)) ∧ W.cell? ⟨g3, 1, none⟩ = some (.int .u64 (nu k1)) ∧ W.cell? ⟨g3, 2, none⟩ = some (.int .u64 (nu (a &&& b))) ∧ g3 < W.heap.size ∧
          W.cell? ⟨g4, 0, none⟩ = some (.int .u64 (nu k0)) ∧ W.cell? ⟨g4, 1, none⟩ = some (.int .u64 (nu k1)) ∧ W.cell? ⟨g4, 2, none⟩ = some (.int .u64 (nu 0)) ∧ g4 < W.heap.size ∧
          W.cell? ⟨w.heap.size, 0, none⟩ = some (.int .u64 (nu k0)) ∧ W.cell? ⟨w.heap.size, 1, none⟩ = some (.int .u64 (nu k1)) ∧ w.heap.size < W.heap.size ∧ Wo w W)
        (first | (go_keep; done) | (refine ⟨?_, ?_, ?_, ?_, ?_, ?_, ?_, ?_, ?_, ?_, ?_, ?_, ?_, ?_, ?_, ?_, ?_, ?_, ?_, ?_⟩ <;> first | assumption | exact Below.drew (by assumption)))
        (first
          | (go_at_call 10; refine (hashX k0 k1 _ a b (a &&& b) 0 Q w.heap.size g1 g2 g3 g4 z w _ hzs HQ ?_ ?_).mono ?_; (refine ⟨?_, ?_, ?_, ?_, ?_, ?_, ?_, ?_, ?_, ?_, ?_, ?_, ?_, ?_, ?_, ?_, ?_, ?_, ?_⟩ <;> first | assumption | (simp [*]; done)); (first | assumption | exact Below.drew (by assumption)); rintro e w3 ⟨rfl, ⟨a1, a2, a3, a4, b1, b2, b3, b4, d1, d2, d3, d4, f1, f2, f3, f4, h1, h2, h3⟩, hwo⟩))
      go_wp2
      go_ret
      exact ⟨rfl, hwo⟩

end Go.Proofs.Ytopfmibnabkbiaa
