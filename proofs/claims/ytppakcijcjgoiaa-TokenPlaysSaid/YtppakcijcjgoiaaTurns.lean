/-
  The walk of TokenTurns.
-/
import Derived.Test.YtppakcijcjgoiaaFull
import Derived.StillTailTactics
namespace Go.Proofs.Ytppakcijcjgoiaa
open Go.RowKit Go.Conc
set_option linter.unusedVariables false

/-- the row behind i turns -/
def rowAt (k i : Nat) : List Nat := (List.range k).map fun x => 1 + (i + x) % k
def rowTail (k i : Nat) : List Nat := (List.range (k - 1)).map fun x => 1 + (i + 1 + x) % k
theorem rowAt_zero (k : Nat) : rowAt k 0 = List.range' 1 k := by
  apply List.ext_getElem (by simp [rowAt])
  intro i h1 h2
  have hi : i < k := by simpa using h2
  simp [rowAt, Nat.mod_eq_of_lt hi]
theorem rowAt_cons (k i : Nat) (hk : 1 ≤ k) : rowAt k i = (1 + i % k) :: rowTail k i := by
  obtain ⟨m, rfl⟩ : ∃ m, k = m + 1 := ⟨k - 1, by omega⟩
  unfold rowAt rowTail
  rw [List.range_succ_eq_map, List.map_cons, List.map_map, Nat.add_sub_cancel]
  congr 1
  apply List.map_congr_left
  intro x _
  simp only [Function.comp, Nat.succ_eq_add_one]
  rw [show i + (x + 1) = i + 1 + x by omega]
theorem rowAt_next (k i : Nat) (hk : 1 ≤ k) : rowTail k i ++ [1 + i % k] = rowAt k (i + 1) := by
  obtain ⟨m, rfl⟩ : ∃ m, k = m + 1 := ⟨k - 1, by omega⟩
  unfold rowAt rowTail
  rw [List.range_succ, List.map_append, Nat.add_sub_cancel]
  congr 1
  simp only [List.map_cons, List.map_nil]
  rw [show i + 1 + m = i + (m + 1) by omega, Nat.add_mod_right]
theorem rowAt_len (k i : Nat) : (rowAt k i).length = k := by simp [rowAt]
theorem rowTail_len (k i : Nat) : (rowTail k i).length = k - 1 := by simp [rowTail]

/-- j are taken -/
def TurnA (B bp c k j : Nat) (v : Value) (ts : List Tk) (ids : List Nat) (w wr : World) : Prop :=
  TL B bp v ts wr ∧ ts.length = j ∧ (∀ t ∈ ts, t.live = true) ∧ Row bp c k ids wr ∧ ids.length = k - j ∧ Below B w wr ∧ B ≤ c

/-- z have been ended -/
def TurnB (B bp c k z : Nat) (v : Value) (ts : List Tk) (w wr : World) : Prop :=
  TL B bp v ts wr ∧ ts.length = k ∧ (∀ i (h : i < ts.length), z ≤ i → (ts[i]'h).live = true) ∧ Row bp c k ((ts.map Tk.id).take z) wr ∧ Below B w wr ∧ B ≤ c
/-- z have been taken anew -/
def TurnC (B bp c k z : Nat) (v : Value) (ts : List Tk) (w wr : World) : Prop :=
  TL B bp v ts wr ∧ ts.length = k ∧ Row bp c k ((ts.map Tk.id).drop z) wr ∧ Below B w wr ∧ B ≤ c
theorem ids_set {ts : List Tk} {z : Nat} (h : z < ts.length) : (ts.set z ⟨(ts[z]'h).bt, (ts[z]'h).id, false⟩).map Tk.id = ts.map Tk.id := by
  rw [List.map_set]; apply List.ext_getElem (by simp)
  intro i h1 h2
  by_cases e : z = i
  · subst e; simp
  · simp [e]

set_option maxRecDepth 100000 in
set_option maxHeartbeats 4000000 in
theorem turns_walk (n r b off len cap0 : Nat) (a0 : Option Addr) (w : World) (hn : n < 256) (hr : r < 256) (ha : 0 < len → a0 = some ⟨b, off, none⟩) (hbw : 0 < len → b < w.heap.size)
    (hc : ∀ j, j < len → ∃ x : Nat, x < 256 ∧ w.cell? ⟨b, off + j, none⟩ = some (.int .u8 x)) :
    Calls Try.prog 3 #[.int .u8 n, .slice a0 len cap0, .int .u8 r] w fun e w' => e = .returned (.bool true) ∧ Below w.heap.size w w' := by
  obtain ⟨i0, hi, hz0, hz1, hz2⟩ := info_parts Try.info28
  have HA := Lib.hid ha
  have HBW := Lib.hid hbw
  have HCC := Lib.hid hc
  clear ha hbw hc
  go_enter Try.func3, Try.ntmps3
  go_wp2_with fail
  refine (awake_any _).mono ?_
  rintro e w1 ⟨rfl, hb1⟩
  have HB1 := Lib.hid hb1
  clear hb1
  go_wp2_with fail
  have eK : (1 : Int) + (n : Int) % 9 = ((1 + n % 9 : Nat) : Int) := by omega
  have hk1 : 1 ≤ 1 + n % 9 := by omega
  have hk2 : 1 + n % 9 ≤ 9 := by omega
  rw [eK]
  clear eK
  generalize 1 + n % 9 = k at hk1 hk2 ⊢
  refine (new_row k _ hk1 (by omega)).mono ?_
  rintro e w2 ⟨rfl, hz2', hc2, hr2⟩
  have HB2 := Lib.hid (hc2.below HB1.out HB1.out.size (by simp))
  have HQ := Lib.hid (show w.heap.size ≤ w1.heap.size from HB1.out.size)
  clear hz2'
  rw [← rowAt_zero] at hr2
  generalize w1.heap.size + 1 = bp at hr2 ⊢
  generalize w1.heap.size = c at hr2 HQ
  have HR2 := Lib.hid hr2
  clear hc2 HB1 hr2
  go_wp2_with fail
  have eM : (r : Int) % 40 = ((r % 40 : Nat) : Int) := by omega
  rw [eM]
  clear eM
  have hM : r % 40 < 40 := Nat.mod_lt _ (by decide)
  generalize r % 40 = M at hM ⊢
  go_loopw [38] (fun i wr => ∃ j : Nat, i = .int .i64 j ∧ j ≤ M ∧ Row bp c k (rowAt k j) wr ∧ Below w.heap.size w wr) (fun i _ => M - (intOf i).toNat)
  case atStart => exact ⟨0, rfl, by omega, HR2.out, HB2.out⟩
  case round =>
    obtain ⟨j, rfl, hj, hrow, hbw⟩ := hrel
    clear HR2 HB2
    have HR := Lib.hid hrow
    have HB := Lib.hid hbw
    clear hrow hbw
    by_cases hlt : j < M
    · go_wp2_with fail
      refine (take_row bp c k (1 + j % k) (rowTail k j) _ (by rw [← rowAt_cons k j hk1]; exact HR.out)).mono ?_
      rintro e wa ⟨rfl, hza, hca, hra, hta⟩
      have HRA := Lib.hid hra
      have HTA := Lib.hid hta
      have HBA := Lib.hid (hca.below HB.out HB.out.size (by simpa using HQ.out))
      have HWR := Lib.hid (show w.heap.size ≤ wr.heap.size from HB.out.size)
      clear hza hca hra hta HB HR
      go_wp2_with fail
      have hwr : IntKind.i64.wrap (1 + (j : Int) % (k : Int)) = 1 + (j : Int) % (k : Int) := Go.IntWalk.i64_in _ (by
        have h1 := Int.emod_nonneg (j : Int) (show (k : Int) ≠ 0 by omega)
        have h2 := Int.emod_lt_of_pos (j : Int) (show (0 : Int) < k by omega)
        omega)
      have hk0 : ¬ (k = 0) := by omega
      have htm : (j : Int).tmod (k : Int) = (j : Int) % (k : Int) := Int.tmod_eq_emod_of_nonneg (by omega)
      have f1 : ∀ W, W.heap[wr.heap.size]? = some (tokB bp (1 + j % k) true) → Calls Try.prog 11 #[.pointer (some ⟨wr.heap.size, 0, none⟩)] W fun e w' => e = .returned (.int .i64 ((1 + j % k : Nat) : Int)) ∧ w' = W := fun W h => id_any _ _ _ _ _ h
      refine wp_region_still_tail 14 (by kernel_rfl) (by kernel_rfl) ?_
      simp only [List.take_succ_cons, List.take_zero, List.drop_succ_cons, List.drop_zero]
      repeat still_step
      still_call f1 _ HTA.out
      repeat still_step
      try refine wpStill_nil ?_
      have HTB : Hid (Tok wr.heap.size bp (1 + j % k) true wa.drew) := HTA
      have HRB : Hid (Row bp c k (rowTail k j) wa.drew) := HRA
      have HBB := Lib.hid HBA.out.drew
      change wpList _ _ _ _ _ wa.drew
      clear HTA HRA HBA f1 hwr htm hk0
      generalize wa.drew = wb at *
      go_wp2_with fail
      refine (end_row bp c k wr.heap.size (1 + j % k) (rowTail k j) _ HRB.out HTB.out (by rw [rowTail_len]; omega)).mono ?_
      rintro e wx ⟨rfl, hzb, hcb, hrb, htb⟩
      have HRX : Hid (Row bp c k (rowAt k (j + 1)) wx) := Lib.hid (by rw [← rowAt_next k j hk1]; exact hrb)
      have HBX := Lib.hid (hcb.below HBB.out HBB.out.size (by simp; exact ⟨HQ.out, HWR.out⟩))
      clear hzb hcb hrb htb HTB HRB HBB
      go_wp2_with fail
      go_roundw
      case rel => exact ⟨j + 1, by go_num, by omega, HRX.out, HBX.out⟩
      case measure => simp [intOf]; omega
    · have HRL := Lib.hid (rowAt_len k j)
      generalize rowAt k j = R0 at HR HRL
      go_wp2_with fail
      go_loopw [13, 65] (fun v i wr => ∃ (j : Nat) (ts : List Tk) (ids : List Nat), i = .int .i64 j ∧ j ≤ k ∧ TurnA w.heap.size bp c k j v ts ids w wr) (fun _ i _ => k - (intOf i).toNat)
      case atStart => exact ⟨0, [], R0, rfl, by omega, TL.nil _ _ _, rfl, by simp, HR.out, HRL.out, HB.out, HQ.out⟩
      case round =>
        clear HR HB HRL
        obtain ⟨x, ts, ids, rfl, hx, hfa⟩ := hrel
        have HF := Lib.hid hfa
        clear hfa
        by_cases hxk : x < k
        · obtain ⟨tl, hlen, hlive, hr, hil, hbw, hBc⟩ := HF.out
          obtain ⟨d, ids, rfl⟩ : ∃ d ds, ids = d :: ds := by
            cases ids with
            | nil => simp at hil; omega
            | cons d ds => exact ⟨d, ds, rfl⟩
          have HLen := Lib.hid hlen
          have HLive := Lib.hid hlive
          have HTL := Lib.hid tl
          have HRow := Lib.hid hr
          have HIL := Lib.hid hil
          have HBW := Lib.hid hbw
          have HBc := Lib.hid hBc
          clear tl hlen hlive hr hil hbw hBc HF
          go_wp2_with fail
          refine (take_row bp c k d ids _ HRow.out).mono ?_
          rintro e wa ⟨rfl, hza, hca, hra, hta⟩
          have tl' := HTL.out.chan HRow.out hca
          have HTL' := Lib.hid tl'
          have HTA := Lib.hid hta
          have HRA := Lib.hid hra
          have HBA := Lib.hid (hca.below HBW.out HBW.out.size (by simpa using HBc.out))
          have HWR := Lib.hid (show w.heap.size ≤ wr.heap.size from HBW.out.size)
          have HBT : Hid (∀ y ∈ ts, y.bt ≠ wr.heap.size) := Lib.hid (fun y hy => by have := (HTL.out.tok y hy).2.lt; omega)
          clear hza hca hra hta tl'
          go_wp2_with (at_builtin; refine wpList_append_own _ rfl _ _ 33 rfl w.heap.size 28 i0 (.pointer none) 1 8 Try.underlying33 hi hz0 hz1 hz2 rfl (by decide) _ _ _ rfl (HTL'.out.own.alloc _) ⟨wa.heap.size, 0, none⟩ 1 1 [.pointer (some ⟨wr.heap.size, 0, none⟩)] rfl rfl ?c1 ?c2 ?c3 ?c4 ?c5 ?_)
          case c1 =>
            intro j u hj
            match j, hj with
            | 0, hj => simp at hj; subst hj; simp [Addr.add]
          case c2 => intro u hu; simp at hu; subst hu; rfl
          case c3 => have := HLen.out; unfold maxLen; omega
          case c4 => have := HLen.out; omega
          case c5 => have := HBA.out.size; simp; omega
          intro v' wb hown' hgrow _
          have al : ∀ o, Ch [] wa (wa.alloc o) := fun o => (Ch.refl _ _).alloc o
          have htl := (HTL'.out.quiet (al _)).more (t := ⟨wr.heap.size, d, true⟩) (HTA.out.next (al _) (by simp)) HWR.out HBT.out hown' hgrow
          have hra' := (HRA.out.next (al _) (by simp) (by simp)).grown (HTL'.out.quiet (al _)).own hgrow
          have hbb : Below w.heap.size w wb := Below.grown (HBA.out.alloc HBA.out.size _) hgrow (by have := HBA.out.size; simp; omega) (fun g hg => (HTL'.out.own.lt g hg).1)
          have hfb : TurnA w.heap.size bp c k (x + 1) v' (ts ++ [⟨wr.heap.size, d, true⟩]) ids w wb :=
            ⟨htl, by simp [HLen.out], by intro t ht; rcases List.mem_append.1 ht with h | h; exact HLive.out t h; simp at h; subst h; rfl, hra', by have := HIL.out; simp at this; omega, hbb, HBc.out⟩
          have HF := Lib.hid hfb
          clear hfb hbb hra' htl hown' hgrow al
          go_wp2_with fail
          go_roundw
          case rel => exact ⟨x + 1, _, _, by go_num, by omega, HF.out⟩
          case measure => simp [intOf]; omega
        · obtain rfl : x = k := by omega
          obtain ⟨tl, hlen, hlive, hr, hil, hbw, hBc⟩ := HF.out
          obtain rfl : ids = [] := by rw [Nat.sub_self] at hil; exact List.eq_nil_of_length_eq_zero hil
          obtain ⟨g, cap, hv⟩ : ∃ g cap, u13 = .slice (some ⟨g, 0, none⟩) x cap := by
            rcases tl.own.2 with ⟨_, h0⟩ | ⟨g, cap, cur, rfl, _⟩
            · omega
            · exact ⟨g, cap, by rw [hlen]⟩
          subst hv
          have HT : Hid (TurnA w.heap.size bp c x x (.slice (some ⟨g, 0, none⟩) x cap) ts [] w wr) := HF
          clear tl hlen hlive hr hil hbw hBc HF
          go_wp2_with fail
          go_loopw [79] (fun i wr => ∃ (y : Nat) (ts : List Tk), i = .int .i64 y ∧ y ≤ x ∧ TurnA w.heap.size bp c x x (.slice (some ⟨g, 0, none⟩) x cap) ts [] w wr) (fun i _ => x - (intOf i).toNat)
          case atStart => exact ⟨0, ts, rfl, by omega, HT.out⟩
          case round =>
            clear HT
            obtain ⟨y, ts, rfl, hy, hfa⟩ := hrel
            have HF := Lib.hid hfa
            clear hfa
            by_cases hyx : y < x
            · by_cases hyl : y < len
              · have ha' := HA.out (by omega)
                subst ha'
                obtain ⟨q, hq, hcq⟩ := HCC.out y hyl
                have hcell : wr.cell? ⟨b, off + y, none⟩ = some (.int .u8 q) := (HF.out.2.2.2.2.2.1.cell (by exact HBW.out (by omega))).trans hcq
                have hdm : (q : Int) % ((x : Int) - (y : Int)) = ((q % (x - y) : Nat) : Int) := by
                  rw [Int.natCast_emod, Int.ofNat_sub (by omega)]
                have hql : q % (x - y) < x - y := Nat.mod_lt _ (by omega)
                have htm : (q : Int).tmod ((x : Int) - (y : Int)) = ((q % (x - y) : Nat) : Int) := by
                  rw [Int.tmod_eq_emod_of_nonneg (by omega)]; exact hdm
                clear hcq
                go_wp2_with fail
                have eJ : (y : Int) + (q : Int) % ((x - y : Nat) : Int) = ((y + q % (x - y) : Nat) : Int) := by simp
                rw [eJ]
                clear hdm htm eJ hcell
                have hJ : y + q % (x - y) < x := by omega
                have hJy : y ≤ y + q % (x - y) := by omega
                clear hql
                generalize y + q % (x - y) = J at hJ hJy ⊢
                obtain ⟨tl, hlen, hlive, hr, hil, hbw, hBc⟩ := HF.out
                have h1 : y < ts.length := by omega
                have h2 : J < ts.length := by omega
                have cy := tl.cell hlen.symm h1
                have cJ := tl.cell hlen.symm h2
                have hown : wr.ownsRow w.heap.size 28 1 (.slice (some ⟨g, 0, none⟩) x cap) x (ts.map Tk.ptr) := by
                  have := tl.own; rw [hlen] at this; exact this
                have fy := hown.frozenAt y
                have fJ := hown.frozenAt J
                have hsw := tl.swap hlen.symm h1 h2
                have hgB := (hown.lt g rfl).1
                have hst := (hown.stored y (.pointer (some ⟨(ts[J]'h2).bt, 0, none⟩))).1
                have fJ2 := hst.frozenAt J
                obtain ⟨z2, cJ2⟩ : ∃ z2, (wr.setCell ⟨g, y, none⟩ (.pointer (some ⟨(ts[J]'h2).bt, 0, none⟩))).cell? ⟨g, J, none⟩ = some z2 := by
                  rw [hst.cellAt J (by omega)]
                  exact ⟨_, List.getElem?_eq_getElem (by simp; omega)⟩
                clear hst
                have hkey : TurnA w.heap.size bp c x x (.slice (some ⟨g, 0, none⟩) x cap) ((ts.set y (ts[J]'h2)).set J (ts[y]'h1)) [] w ((wr.setCell ⟨g, y, none⟩ (.pointer (some ⟨(ts[J]'h2).bt, 0, none⟩))).setCell ⟨g, J, none⟩ (.pointer (some ⟨(ts[y]'h1).bt, 0, none⟩))) :=
                  ⟨hsw.1, by simpa using hlen, fun t ht => hlive t ((List.set_set_perm h1 h2).mem_iff.1 ht), hr.next hsw.2 (by simpa using fun e => (row_own hown hr (g := g) rfl).1 e.symm) (by simpa using fun e => (row_own hown hr (g := g) rfl).2 e.symm), hil, hsw.2.below hbw hbw.size (by simpa using hgB), hBc⟩
                have HK := Lib.hid hkey
                clear hkey hsw hown tl hlive hr hil hbw hBc HF hgB
                generalize (ts.set y (ts[J]'h2)).set J (ts[y]'h1) = ts2 at HK
                generalize (ts[J]'h2).bt = bJ at cJ HK fJ2 cJ2
                generalize (ts[y]'h1).bt = by_ at cy HK
                clear h1 h2 hlen
                have cy' : wr.drew.cell? ⟨g, y, none⟩ = some (.pointer (some ⟨by_, 0, none⟩)) := cy
                have cJ' : wr.drew.cell? ⟨g, J, none⟩ = some (.pointer (some ⟨bJ, 0, none⟩)) := cJ
                have fy' : wr.drew.frozen? ⟨g, y, none⟩ = false := fy
                have fJ' : wr.drew.frozen? ⟨g, J, none⟩ = false := fJ
                have gJ' : (wr.setCell ⟨g, y, none⟩ (.pointer (some ⟨bJ, 0, none⟩))).drew.frozen? ⟨g, J, none⟩ = false := fJ2
                have dJ' : (wr.setCell ⟨g, y, none⟩ (.pointer (some ⟨bJ, 0, none⟩))).drew.cell? ⟨g, J, none⟩ = some z2 := cJ2
                have HK' : Hid (TurnA w.heap.size bp c x x (.slice (some ⟨g, 0, none⟩) x cap) ts2 [] w ((wr.setCell ⟨g, y, none⟩ (.pointer (some ⟨bJ, 0, none⟩))).setCell ⟨g, J, none⟩ (.pointer (some ⟨by_, 0, none⟩))).drew) :=
                  Lib.hid ⟨HK.out.1.quiet (w' := ((wr.setCell ⟨g, y, none⟩ (.pointer (some ⟨bJ, 0, none⟩))).setCell ⟨g, J, none⟩ (.pointer (some ⟨by_, 0, none⟩))).drewN 1) ((Ch.refl [] _).drewN 1), HK.out.2.1, HK.out.2.2.1, HK.out.2.2.2.1, HK.out.2.2.2.2.1, HK.out.2.2.2.2.2.1.drew, HK.out.2.2.2.2.2.2⟩
                clear HK
                go_region
                all_goals go_wp2_with fail
                all_goals go_roundw
                all_goals first
                  | exact ⟨y + 1, ts2, by go_num, by omega, HK'.out⟩
                  | (simp [intOf]; omega)
              · go_wp2_with fail
                go_roundw
                case rel => exact ⟨y + 1, ts, by go_num, by omega, HF.out⟩
                case measure => simp [intOf]; omega
            · obtain rfl : y = x := by omega
              have HT : Hid (TurnB w.heap.size bp c y 0 (.slice (some ⟨g, 0, none⟩) y cap) ts w wr) := by
                obtain ⟨tl, hlen, hlive, hr, hil, hbw, hBc⟩ := HF.out
                exact Lib.hid ⟨tl, hlen, fun i h _ => hlive _ (List.getElem_mem h), hr, hbw, hBc⟩
              clear HF
              go_wp2_with fail
              go_loopw [115] (fun i wr => ∃ (z : Nat) (ts : List Tk), i = .int .i64 z ∧ z ≤ y ∧ TurnB w.heap.size bp c y z (.slice (some ⟨g, 0, none⟩) y cap) ts w wr) (fun i _ => y - (intOf i).toNat)
              case atStart => exact ⟨0, ts, rfl, by omega, HT.out⟩
              case round =>
                clear HT
                obtain ⟨z, ts, rfl, hz, hfa⟩ := hrel
                have HF := Lib.hid hfa
                clear hfa
                by_cases hzy : z < y
                · have hzl : z < ts.length := by rw [HF.out.2.1]; exact hzy
                  have hcell := HF.out.1.cell HF.out.2.1.symm hzl
                  have htok := HF.out.1.get hzl
                  rw [HF.out.2.2.1 z hzl (Nat.le_refl _)] at htok
                  have HTK := Lib.hid htok
                  clear htok
                  generalize hbt : (ts[z]'hzl).bt = bt at hcell HTK
                  generalize hid : (ts[z]'hzl).id = id at HTK
                  have HBT := Lib.hid hbt
                  have HID := Lib.hid hid
                  clear hbt hid
                  go_wp2_with fail
                  refine (end_row bp c y bt id _ _ HF.out.2.2.2.1 HTK.out (by rw [List.length_take]; omega)).mono ?_
                  rintro e wa ⟨rfl, hza, hca, hra, hta⟩
                  have hfb : TurnB w.heap.size bp c y (z + 1) (.slice (some ⟨g, 0, none⟩) y cap) (ts.set z ⟨(ts[z]'hzl).bt, (ts[z]'hzl).id, false⟩) w wa := by
                    obtain ⟨tl, hlen, hlive, hr, hbw, hBc⟩ := HF.out
                    have hb := HBT.out
                    have hd := HID.out
                    have htl := tl.ended hr hzl (w' := wa) (by rw [hb]; exact hca) (by rw [hb, hd]; exact hta)
                    refine ⟨htl, by simpa using hlen, fun i hi hzi => ?_, ?_, hca.below hbw hbw.size ?_, hBc⟩
                    · rw [List.getElem_set_ne (by omega)]
                      exact hlive i (by simpa using hi) (by omega)
                    · rw [ids_set, List.take_succ_eq_append_getElem (by simpa using hzl)]
                      rw [List.getElem_map, hd]
                      exact hra
                    · have := (tl.tok _ (List.getElem_mem hzl)).1
                      rw [hb] at this
                      intro q hq
                      rcases List.mem_cons.1 hq with rfl | hq
                      · exact hBc
                      · obtain rfl : q = bt := by simpa using hq
                        exact this
                  have HF2 := Lib.hid hfb
                  clear hfb hza hca hra hta HF HTK HBT HID hcell
                  go_wp2_with fail
                  go_roundw
                  case rel => exact ⟨z + 1, _, by go_num, by omega, HF2.out⟩
                  case measure => simp [intOf]; omega
                · obtain rfl : z = y := by omega
                  have HT : Hid (TurnC w.heap.size bp c z 0 (.slice (some ⟨g, 0, none⟩) z cap) ts w wr) := by
                    obtain ⟨tl, hlen, hlive, hr, hbw, hBc⟩ := HF.out
                    refine Lib.hid ⟨tl, hlen, ?_, hbw, hBc⟩
                    rw [List.drop_zero]
                    rw [List.take_of_length_le (by simp; omega)] at hr
                    exact hr
                  clear HF
                  go_wp2_with fail
                  go_loopw [125] (fun i wr => ∃ (q : Nat) (ts : List Tk), i = .int .i64 q ∧ q ≤ z ∧ TurnC w.heap.size bp c z q (.slice (some ⟨g, 0, none⟩) z cap) ts w wr) (fun i _ => z - (intOf i).toNat)
                  case atStart => exact ⟨0, ts, rfl, by omega, HT.out⟩
                  case round =>
                    clear HT
                    obtain ⟨q, ts, rfl, hq, hfa⟩ := hrel
                    have HF := Lib.hid hfa
                    clear hfa
                    by_cases hqz : q < z
                    · have hql : q < ts.length := by rw [HF.out.2.1]; exact hqz
                      have hcell := HF.out.1.cell HF.out.2.1.symm hql
                      have htok := HF.out.1.get hql
                      have hrow := HF.out.2.2.1
                      rw [List.drop_eq_getElem_cons (by simpa using hql), List.getElem_map] at hrow
                      have HTK := Lib.hid htok
                      have HRow := Lib.hid hrow
                      clear htok hrow
                      generalize (ts[q]'hql).bt = bt at hcell HTK
                      generalize (ts[q]'hql).id = id at HTK HRow
                      generalize (ts[q]'hql).live = lv at HTK
                      have HQL := Lib.hid hql
                      clear hql
                      go_wp2_with fail
                      refine (take_row bp c z id _ _ HRow.out).mono ?_
                      rintro e wa ⟨rfl, hza, hca, hra, hta⟩
                      have htk : Tok bt bp id lv wa := HTK.out.next hca (by simpa using (tok_row HTK.out HRow.out).1)
                      have hne : wr.heap.size ≠ bt := by have := HTK.out.lt; omega
                      obtain ⟨j53, hj53, hs53⟩ := info53
                      have hpe := run_eql_ptr_other wa (a := ⟨wr.heap.size, 0, none⟩) (b := ⟨bt, 0, none⟩) Try.underlying28 hj53 hs53 (fun e => hne (by injection e)) hta htk
                      have hfb : TurnC w.heap.size bp c z (q + 1) (.slice (some ⟨g, 0, none⟩) z cap) ts w wa :=
                        ⟨HF.out.1.chan HRow.out hca, HF.out.2.1, hra, hca.below HF.out.2.2.2.1 HF.out.2.2.2.1.size (by simpa using HF.out.2.2.2.2), HF.out.2.2.2.2⟩
                      have HF2 := Lib.hid hfb
                      have HTA := Lib.hid hta
                      have HTK2 := Lib.hid htk
                      clear hfb hza hca hra hta htk HF HTK HRow hcell hne hj53 hs53
                      go_wp2_with fail
                      refine (id_row _ _ _ _ _ HTA.out).mono ?_
                      rintro e w' ⟨rfl, rfl⟩
                      go_wp2_with fail
                      refine (id_row _ _ _ _ _ HTK2.out).mono ?_
                      rintro e w' ⟨rfl, rfl⟩
                      go_wp2_with fail
                      go_roundw
                      case rel => exact ⟨q + 1, ts, by go_num, by omega, HF2.out⟩
                      case measure => simp [intOf]; omega
                    · go_wp2_with fail
                      all_goals go_ret
                      all_goals exact ⟨rfl, HF.out.2.2.2.1⟩
end Go.Proofs.Ytppakcijcjgoiaa
