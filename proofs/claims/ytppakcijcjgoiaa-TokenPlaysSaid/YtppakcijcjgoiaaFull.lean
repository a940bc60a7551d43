/-
  The walk of TokenFull.
-/
import Derived.Test.YtppakcijcjgoiaaList
import Derived.ProofKit
namespace Go.Proofs.Ytppakcijcjgoiaa
open Go.RowKit Go.Conc
set_option linter.unusedVariables false

/-- j are taken, each live, its own id -/
def FullA (B bp c bq d k j : Nat) (v : Value) (ts : List Tk) (w wr : World) : Prop :=
  TL B bp v ts wr ∧ ts.length = j ∧ (∀ t ∈ ts, t.live = true) ∧ Row bp c k (List.range' (j + 1) (k - j)) wr ∧ Row bq d k (List.range' 1 k) wr ∧ Below B w wr ∧ B ≤ c

/-- j have been ended -/
def FullB (B bp c bq d k j : Nat) (v : Value) (ts : List Tk) (ids : List Nat) (w wr : World) : Prop :=
  TL B bp v ts wr ∧ ts.length = k ∧ (∀ x (h : x < ts.length), j ≤ x → (ts[x]'h).live = true) ∧ Row bp c k ids wr ∧ ids.length = j ∧ Row bq d k (List.range' 1 k) wr ∧ Below B w wr ∧ B ≤ c

set_option maxRecDepth 100000 in
set_option maxHeartbeats 4000000 in
theorem full_walk (m : Nat) (w : World) (hm : m < 65536) : Calls Try.prog 4 #[.int .u16 m] w fun e w' => e = .returned (.bool true) ∧ Below w.heap.size w w' := by
  obtain ⟨i0, hi, hz0, hz1, hz2⟩ := info_parts Try.info28
  go_enter Try.func4, Try.ntmps4
  go_wp2_with fail
  refine (awake_any _).mono ?_
  rintro e w1 ⟨rfl, hb1⟩
  have HB1 := Lib.hid hb1
  clear hb1
  go_wp2_with fail
  have eK : (1 : Int) + (m : Int) % 300 = ((1 + m % 300 : Nat) : Int) := by omega
  have hk1 : 1 ≤ 1 + m % 300 := by omega
  have hk2 : 1 + m % 300 ≤ 300 := by omega
  rw [eK]
  clear eK
  generalize 1 + m % 300 = k at hk1 hk2 ⊢
  refine (new_row k _ hk1 (by omega)).mono ?_
  rintro e w2 ⟨rfl, hz2', hc2, hr2⟩
  have HB2 := Lib.hid (hc2.below HB1.out HB1.out.size (by simp))
  have HQ := Lib.hid (show w.heap.size ≤ w1.heap.size from HB1.out.size)
  clear hz2'
  generalize hbp : w1.heap.size + 1 = bp at hr2 ⊢
  generalize hcc : w1.heap.size = c at hr2 HQ
  have HN := Lib.hid (show bp ≠ c by omega)
  have HBC := Lib.hid (show bp = c + 1 by omega)
  clear hbp hcc hc2 HB1
  go_wp2_with fail
  refine (new_row k _ hk1 (by omega)).mono ?_
  rintro e w3 ⟨rfl, hz3', hc3, hr3⟩
  have HB3 := Lib.hid (hc3.below HB2.out HB2.out.size (by simp))
  have hr2' := hr2.next hc3 (by simp) (by simp)
  have HNE := Lib.hid (show bp ≠ w2.heap.size + 1 ∧ c ≠ w2.heap.size by have := hr2.lt; omega)
  clear hz3' hc3 HB2 hr2
  generalize w2.heap.size + 1 = bq at hr3 HNE ⊢
  generalize w2.heap.size = d at hr3 HNE
  go_wp2_with fail
  go_loopw [8, 33] (fun v i wr => ∃ (j : Nat) (ts : List Tk), i = .int .i64 j ∧ j ≤ k ∧ FullA w.heap.size bp c bq d k j v ts w wr) (fun _ i _ => k - (intOf i).toNat)
  case atStart => exact ⟨0, [], rfl, by omega, TL.nil _ _ _, rfl, by simp, by simpa using hr2', hr3, HB3.out, HQ.out⟩
  case round =>
    obtain ⟨j, ts, rfl, hj, hfa⟩ := hrel
    clear hr2' hr3 HB3
    have HF := Lib.hid hfa
    clear hfa
    by_cases hlt : j < k
    · have hx : Row bp c k ((j + 1) :: List.range' (j + 1 + 1) (k - (j + 1))) wr := by
        have h := HF.out.2.2.2.1
        rw [show k - j = (k - (j + 1)) + 1 by omega, List.range'_succ] at h
        exact h
      have d1 : ((((j + 1 : Nat) : Int)) != (j : Int) + 1) = false := by simp
      go_wp2_with fail
      refine (take_row _ _ _ _ _ _ hx).mono ?_
      rintro e wa ⟨rfl, hza, hca, hra, hta⟩
      have HZ := Lib.hid hza
      have HC := Lib.hid hca
      have HX := Lib.hid hx
      have HR := Lib.hid hra
      clear hx hza hca hra
      go_wp2_with fail
      refine (id_row _ _ _ _ _ hta).mono ?_
      rintro e w' ⟨rfl, rfl⟩
      have hx2 : FullA w.heap.size bp c bq d k j u8 ts w wr := HF.out
      obtain ⟨tl, hlen, hlive, hr, hq, hbw, hBc⟩ := hx2
      have tl' := tl.chan hr HC.out
      have hq' : Row bq d k (List.range' 1 k) wa := hq.next HC.out (by simpa using fun e => row_row hq hr e) (by simpa using fun e => HNE.out.2 e.symm)
      have hbw' := HC.out.below hbw hbw.size (by simpa using hBc)
      have hlt' : w.heap.size ≤ wr.heap.size := hbw.size
      have hbt : ∀ x ∈ ts, x.bt ≠ wr.heap.size := fun x hx => by have := (tl.tok x hx).2.lt; omega
      clear tl hr hq hbw HX HF HC
      go_wp2_with (at_builtin; refine wpList_append_own _ rfl _ _ 33 rfl w.heap.size 28 i0 (.pointer none) 1 8 Try.underlying33 hi hz0 hz1 hz2 rfl (by decide) _ _ _ rfl (tl'.own.alloc _) ⟨wa.heap.size, 0, none⟩ 1 1 [.pointer (some ⟨wr.heap.size, 0, none⟩)] rfl rfl ?c1 ?c2 ?c3 ?c4 ?c5 ?_)
      case c1 =>
        intro j u hj
        match j, hj with
        | 0, hj => simp at hj; subst hj; simp [Addr.add]
      case c2 => intro u hu; simp at hu; subst hu; rfl
      case c3 => unfold maxLen; omega
      case c4 => omega
      case c5 => have := hbw'.size; simp; omega
      intro v' wb hown' hgrow _
      have al : ∀ o, Ch [] wa (wa.alloc o) := fun o => (Ch.refl _ _).alloc o
      have htl := (tl'.quiet (al _)).more (t := ⟨wr.heap.size, j + 1, true⟩) (hta.next (al _) (by simp)) hlt' hbt (by rw [hlen]; exact hown') hgrow
      have hra' := (HR.out.next (al _) (by simp) (by simp)).grown (tl'.quiet (al _)).own hgrow
      have hqa' := (hq'.next (al _) (by simp) (by simp)).grown (tl'.quiet (al _)).own hgrow
      have hbb : Below w.heap.size w wb := Below.grown (hbw'.alloc hbw'.size _) hgrow (by have := hbw'.size; simp; omega) (fun g hg => (tl'.own.lt g hg).1)
      have hfb : FullA w.heap.size bp c bq d k (j + 1) v' (ts ++ [⟨wr.heap.size, j + 1, true⟩]) w wb :=
        ⟨htl, by simp [hlen], by intro t ht; rcases List.mem_append.1 ht with h | h; exact hlive t h; simp at h; subst h; rfl, hra', hqa', hbb, hBc⟩
      have HF := Lib.hid hfb
      clear hfb hbb hqa' hra' htl hown' hgrow al hbt hlt' hbw' hq' tl' hta hlive HR
      go_wp2_with fail
      go_roundw
      case rel => exact ⟨j + 1, _, by go_num, by omega, HF.out⟩
      case measure => simp [intOf]; omega
    · obtain rfl : j = k := by omega
      have hx2 : FullA w.heap.size bp c bq d j j u8 ts w wr := HF.out
      obtain ⟨tl, hlen, hlive, hr, hq, hbw, hBc⟩ := hx2
      rw [Nat.sub_self] at hr
      have hr0 : Row bp c j [] wr := hr
      have HL := Lib.hid hlive
      have HQ2 := Lib.hid hq
      have HBW := Lib.hid hbw
      have HBc := Lib.hid hBc
      have HLen := Lib.hid hlen
      obtain ⟨g, cap, hv⟩ : ∃ g cap, u8 = .slice (some ⟨g, 0, none⟩) j cap := by
        rcases tl.own.2 with ⟨_, h0⟩ | ⟨g, cap, cur, rfl, _⟩
        · omega
        · exact ⟨g, cap, by rw [hlen]⟩
      subst hv
      have HT := Lib.hid tl
      clear tl hr hq hbw hBc hlive hlen HF
      go_wp2_with fail
      refine (take_empty _ _ _ _ hr0).mono ?_
      rintro e w' ⟨rfl, rfl⟩
      go_wp2_with fail
      refine (out_row _ _ _ _ _ hr0 (by omega) (by simp)).mono ?_
      rintro e w' ⟨rfl, nd, rfl⟩
      simp only [List.length_nil, Nat.sub_zero]
      have hr1 : Row bp c j [] (wr.drewN nd) := hr0
      have HT1 : Hid (TL w.heap.size bp (.slice (some ⟨g, 0, none⟩) j cap) ts (wr.drewN nd)) := Lib.hid (HT.out.quiet ((Ch.refl _ _).drewN nd))
      have HQ3 : Hid (Row bq d j (List.range' 1 j) (wr.drewN nd)) := HQ2
      have HB4 := Lib.hid (((Ch.refl [] wr).drewN nd).below HBW.out HBW.out.size (by simp))
      clear hr0 HT HQ2 HBW
      generalize wr.drewN nd = wo at *
      go_wp2_with fail
      go_loopw [74] (fun i wr => ∃ (x : Nat) (ts : List Tk) (ids : List Nat), i = .int .i64 x ∧ x ≤ j ∧ FullB w.heap.size bp c bq d j x (.slice (some ⟨g, 0, none⟩) j cap) ts ids w wr) (fun i _ => j - (intOf i).toNat)
      case atStart => exact ⟨0, ts, [], rfl, by omega, HT1.out, HLen.out, fun x h _ => HL.out _ (List.getElem_mem h), hr1, rfl, HQ3.out, HB4.out, HBc.out⟩
      case round =>
        obtain ⟨x, ts, ids, rfl, hx, hfb⟩ := hrel
        have HF := Lib.hid hfb
        clear hfb hr1 HT1 HQ3 HB4
        by_cases hlt : x < j
        · have hxl : x < ts.length := by rw [HF.out.2.1]; exact hlt
          have hcell := HF.out.1.cell HF.out.2.1.symm hxl
          have htok := HF.out.1.get hxl
          rw [HF.out.2.2.1 x hxl (Nat.le_refl _)] at htok
          have hr := HF.out.2.2.2.1
          have hq := HF.out.2.2.2.2.2.1
          have hil : ids.length < j := by rw [HF.out.2.2.2.2.1]; exact hlt
          have HIL := Lib.hid hil
          have HXL := Lib.hid hxl
          have HTK := Lib.hid htok
          have HR := Lib.hid hr
          have HQ := Lib.hid hq
          generalize ht : (ts[x]'hxl) = t at *
          have HT := Lib.hid ht
          clear hil htok hr hq ht
          go_wp2_with fail
          refine (end_far bq d j bp c j t.bt t.id _ _ _ HTK.out HQ.out HR.out HNE.out.1).mono ?_
          rintro e w' ⟨rfl, rfl⟩
          go_wp2_with fail
          refine (live_row _ _ _ _ _ HTK.out).mono ?_
          rintro e w' ⟨rfl, rfl⟩
          go_wp2_with fail
          refine (end_row bp c j t.bt t.id ids _ HR.out HTK.out HIL.out).mono ?_
          rintro e wa ⟨rfl, hza, hca, hra, hta⟩
          have hfb : FullB w.heap.size bp c bq d j (x + 1) (.slice (some ⟨g, 0, none⟩) j cap) (ts.set x ⟨t.bt, t.id, false⟩) (ids ++ [t.id]) w wa := by
            obtain ⟨tl, hlen, hlive, hr, hil, hq, hbw, hBc⟩ := HF.out
            have ht := HT.out
            have htl := tl.ended hr hxl (w' := wa) (by rw [ht]; exact hca) (by rw [ht]; exact hta)
            rw [ht] at htl
            have h1 := tok_row HTK.out hq
            have h2 := row_row hq hr
            refine ⟨htl, by simpa using hlen, fun y hy hxy => ?_, hra, by simp [hil], hq.next hca (by simp; exact ⟨h2, fun e => h1.2 e.symm⟩) (by simp; exact ⟨fun e => HNE.out.2 e.symm, fun e => h1.1 e.symm⟩), hca.below hbw hbw.size ?_, hBc⟩
            · rw [List.getElem_set_ne (by omega)]
              exact hlive y (by simpa using hy) (by omega)
            · have := (tl.tok _ (List.getElem_mem hxl)).1
              rw [ht] at this
              intro z hz
              rcases List.mem_cons.1 hz with rfl | hz
              · exact hBc
              · obtain rfl : z = t.bt := by simpa using hz
                exact this
          have HF2 := Lib.hid hfb
          have HTA := Lib.hid hta
          clear hfb hza hca hra hta HF HTK HR HQ HT HIL HXL hcell
          go_wp2_with fail
          refine (end_again bp bp t.bt t.id _ HTA.out).mono ?_
          rintro e w' ⟨rfl, rfl⟩
          go_wp2_with fail
          refine (live_row _ _ _ _ _ HTA.out).mono ?_
          rintro e w' ⟨rfl, rfl⟩
          go_wp2_with fail
          go_roundw
          case rel => exact ⟨x + 1, _, _, by go_num, by omega, HF2.out⟩
          case measure => simp [intOf]; omega
        · obtain rfl : x = j := by omega
          obtain ⟨tl, hlen, hlive, hr, hil, hq, hbw, hBc⟩ := HF.out
          have HB := Lib.hid hbw
          have HQ := Lib.hid hq
          have HIL := Lib.hid hil
          have HR := Lib.hid hr
          clear tl hlen hlive hr hil hq hbw hBc HF
          go_wp2_with fail
          refine (out_row bp c _ _ _ HR.out (by omega) (by rw [HIL.out]; exact Nat.le_refl _)).mono ?_
          rintro e w' ⟨rfl, nd, rfl⟩
          have HQ3 : Hid (Row bq d x (List.range' 1 x) (wr.drewN nd)) := HQ
          have HB4 := Lib.hid (((Ch.refl [] wr).drewN nd).below HB.out HB.out.size (by simp))
          rw [HIL.out, Nat.sub_self]
          clear HQ HB HR
          generalize wr.drewN nd = wz at *
          go_wp2_with fail
          refine (out_row bq d _ _ _ HQ3.out (by omega) (by simp)).mono ?_
          rintro e w' ⟨rfl, nd2, rfl⟩
          simp only [List.length_range', Nat.sub_self]
          have HB5 := Lib.hid (((Ch.refl [] wz).drewN nd2).below HB4.out HB4.out.size (by simp))
          go_wp2_with fail
          all_goals go_ret
          all_goals exact ⟨rfl, HB5.out⟩

theorem nat_u8 (a : Int) (h : (Lit.int .u8 a).wf = true) : ∃ x : Nat, a = x ∧ x < 256 := by
  have hm : IntKind.u8.min = 0 := rfl
  have hx : IntKind.u8.max = 255 := rfl
  simp only [Lit.wf, Bool.and_eq_true, decide_eq_true_eq] at h
  exact ⟨a.toNat, by omega, by omega⟩
theorem nat_u16 (a : Int) (h : (Lit.int .u16 a).wf = true) : ∃ x : Nat, a = x ∧ x < 65536 := by
  have hm : IntKind.u16.min = 0 := rfl
  have hx : IntKind.u16.max = 65535 := rfl
  simp only [Lit.wf, Bool.and_eq_true, decide_eq_true_eq] at h
  exact ⟨a.toNat, by omega, by omega⟩
end Go.Proofs.Ytppakcijcjgoiaa
