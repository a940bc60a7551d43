/-
  The walk of TokenPlays.
-/
import Derived.Test.YtppakcijcjgoiaaPools
import Derived.Test.YtppakcijcjgoiaaRefNew
import Derived.Test.YtppakcijcjgoiaaTurns
import Derived.Deep.QuietTactic
import Derived.BigQuiet
namespace Go.Proofs.Ytppakcijcjgoiaa
open Go.RowKit Go.Conc
set_option linter.unusedVariables false

structure Play (B bp c rb k : Nat) (v : Value) (ts : List Tk) (ids : List Nat) (w wr : World) : Prop where
  tl : TL B bp v ts wr
  row : Row bp c k ids wr
  rp : ∃ vr vl vi, Rp B rb k ids (ts.map Tk.live) (ts.map Tk.id) vr vl vi wr
  below : Below B w wr
  hc : B ≤ c
  cnt : ids.length + (lives ts).length = k

theorem own_lower {B B' n : Nat} {e : TypeId} {v : Value} {xs : List Value} {w : World} (h : w.ownsRow B e 1 v n xs) (hB : B' ≤ B) : w.ownsRow B' e 1 v n xs := by
  refine ⟨h.1, ?_⟩
  rcases h.2 with hn | ⟨g, cap, cur, rfl, hb, rest⟩
  · exact .inl hn
  · exact .inr ⟨g, cap, cur, rfl, by omega, rest⟩
theorem Rp.lower {B B' rb n : Nat} {row : List Nat} {live : List Bool} {ids : List Nat} {vr vl vi : Value} {w : World} (h : Rp B rb n row live ids vr vl vi w) (hB : B' ≤ B) : Rp B' rb n row live ids vr vl vi w :=
  ⟨h.blk, by have := h.hB; omega, own_lower h.row hB, own_lower h.live hB, own_lower h.ids hB, h.apart⟩
theorem Kp.lower {B B' : Nat} {a b : World} (h : Kp B a b) (hB : B' ≤ B) : Kp B' a b := ⟨h.os, h.tape, h.output, h.size, fun k hk hl => h.low k (by omega) hl, h.kept⟩

variable {B bp c rb k : Nat} {v : Value} {ts : List Tk} {ids : List Nat} {w wr wx : World}
theorem Play.size (h : Play B bp c rb k v ts ids w wr) : B ≤ wr.heap.size := by have := h.hc; have := h.row.lt; omega
theorem Play.quiet (h : Play B bp c rb k v ts ids w wr) (hx : Ch [] wr wx) : Play B bp c rb k v ts ids w wx :=
  let ⟨vr, vl, vi, hr⟩ := h.rp
  ⟨h.tl.quiet hx, h.row.next hx (by simp) (by simp), ⟨vr, vl, vi, hr.next hx (by simp) (by simp) (by simp) (by simp)⟩, hx.below h.below h.size (by simp), h.hc, h.cnt⟩
theorem Row.plain {bp c k : Nat} {ids : List Nat} {w : World} (h : Row bp c k ids w) : ∀ x ∈ [c], ∃ o, w.heap[x]? = some o ∧ Plain o := by
  obtain ⟨hp, s, r, hh⟩ := h
  intro x hx
  obtain rfl : x = c := by simpa using hx
  exact ⟨_, hh, trivial⟩
theorem own_plain {B n : Nat} {v : Value} {xs : List Value} {w : World} (h : w.ownsRow B 28 1 v n xs) : ∀ x ∈ v.ownBlock.toList, ∃ o, w.heap[x]? = some o ∧ Plain o := by
  intro x hx
  obtain ⟨cur, hcur⟩ := own_block h (g := x) (by simpa using hx)
  exact ⟨_, hcur, by simp [Plain]⟩

set_option maxRecDepth 100000 in
set_option maxHeartbeats 4000000 in
theorem plays_walk (n b off len cap0 : Nat) (a0 : Option Addr) (w : World) (hn : n < 256) (ha : 0 < len → a0 = some ⟨b, off, none⟩) (hbw : 0 < len → b < w.heap.size)
    (hc : ∀ j, j < len → ∃ x : Nat, x < 256 ∧ w.cell? ⟨b, off + j, none⟩ = some (.int .u8 x)) :
    Calls Try.prog 6 #[.int .u8 n, .slice a0 len cap0] w fun e w' => e = .returned (.bool true) ∧ Below w.heap.size w w' := by
  obtain ⟨i0, hi, hz0, hz1, hz2⟩ := info_parts Try.info28
  have HA := Lib.hid ha
  have HBW := Lib.hid hbw
  have HCC := Lib.hid hc
  clear ha hbw hc
  go_enter Try.func6, Try.ntmps6
  go_wp2_with fail
  refine (awake_any _).mono ?_
  rintro e w1 ⟨rfl, hb1⟩
  have HB1 := Lib.hid hb1
  clear hb1
  go_wp2_with fail
  have eK : (1 : Int) + (n : Int) % 12 = ((1 + n % 12 : Nat) : Int) := by omega
  have hk1 : 1 ≤ 1 + n % 12 := by omega
  have hk2 : 1 + n % 12 ≤ 12 := by omega
  rw [eK]
  clear eK
  generalize 1 + n % 12 = k at hk1 hk2 ⊢
  refine (new_row k _ hk1 (by omega)).mono ?_
  rintro e w2 ⟨rfl, hz2', hc2, hr2⟩
  have HB2 := Lib.hid (hc2.below HB1.out HB1.out.size (by simp))
  have HQ := Lib.hid (show w.heap.size ≤ w1.heap.size from HB1.out.size)
  clear hz2'
  generalize w1.heap.size + 1 = bp at hr2 ⊢
  generalize w1.heap.size = c at hr2 HQ
  have HR2 := Lib.hid hr2
  clear hc2 HB1 hr2
  go_wp2_with fail
  refine (ref_new k _ (by omega)).mono ?_
  rintro e w3 ⟨rfl, ⟨vr, hrp⟩, hkp⟩
  have HP : Hid (Play w.heap.size bp c w2.heap.size k (.slice none 0 0) [] (List.range' 1 k) w w3) :=
    Lib.hid ⟨TL.nil _ _ _, hkp.row HR2.out, ⟨_, _, _, hrp.lower HB2.out.size⟩, (hkp.lower HB2.out.size).below HB2.out HB2.out.size, HQ.out, by simp [lives_nil]⟩
  generalize w2.heap.size = rb at HP ⊢
  clear hrp hkp HB2 HQ HR2
  go_wp2_with fail
  go_loopw [9, 37] (fun v i wr => ∃ (j : Nat) (ts : List Tk) (ids : List Nat), i = .int .i64 j ∧ j ≤ len ∧ j ≤ 80 ∧ ts.length ≤ j ∧ Play w.heap.size bp c rb k v ts ids w wr) (fun _ i _ => len - (intOf i).toNat)
  case atStart => exact ⟨0, [], _, rfl, by omega, by omega, by simp, HP.out⟩
  case round =>
    clear HP
    obtain ⟨j, ts, ids, rfl, hj, hj80, hl, hp⟩ := hrel
    have HP := Lib.hid hp
    clear hp
    by_cases hjl : j < len
    · have ha' := HA.out (by omega)
      subst ha'
      obtain ⟨q, hq, hcq⟩ := HCC.out j hjl
      have hcell : wr.cell? ⟨b, off + j, none⟩ = some (.int .u8 q) := (HP.out.below.cell (by exact HBW.out (by omega))).trans hcq
      clear hcq
      by_cases h80 : 80 ≤ j
      · go_wp2_with fail
        all_goals go_ret
        all_goals exact ⟨rfl, HP.out.below⟩
      · obtain ⟨a, cap, hv, hag⟩ : ∃ (a : Option Addr) (cap : Nat), u9 = .slice a ts.length cap ∧ (0 < ts.length → ∃ g, a = some ⟨g, 0, none⟩) := by
          rcases HP.out.tl.own.2 with ⟨rfl, h0⟩ | ⟨g, cap, cur, rfl, _⟩
          · exact ⟨none, 0, by rw [h0], fun h => absurd h (by omega)⟩
          · exact ⟨_, _, rfl, fun _ => ⟨g, rfl⟩⟩
        subst hv
        go_upto_region 13 with fail
        go_cut [51] (fun u51 wx => u51 = .bool (decide (q % 2 = 0 ∨ ts.length = 0)) ∧ wr = wx)
        case first =>
          clear HCC HA HBW HP
          by_cases h2 : q % 2 = 0
          · have b2 : ((q : Int) % 2 == 0) = true := by rw [beq_iff_eq]; omega
            have H2 := Lib.hid h2
            clear h2
            go_wp2_with fail
            go_meet
            exact ⟨by simp [H2.out], rfl⟩
          · have b2 : ((q : Int) % 2 == 0) = false := by rw [beq_eq_false_iff_ne]; omega
            have H2 := Lib.hid h2
            clear h2
            by_cases h0 : ts.length = 0
            · have b0 : ((ts.length : Int) == 0) = true := by rw [beq_iff_eq]; omega
              have H0 := Lib.hid h0
              clear h0
              go_wp2_with fail
              go_meet
              exact ⟨by simp [H0.out], rfl⟩
            · have b0 : ((ts.length : Int) == 0) = false := by rw [beq_eq_false_iff_ne]; omega
              have H0 := Lib.hid h0
              clear h0
              go_wp2_with fail
              go_meet
              exact ⟨by simp [H0.out, H2.out], rfl⟩
        case rest =>
          obtain ⟨rfl, rfl⟩ := hcut
          go_upto_if 51 with fail
          go_cut [9] (fun u9 wx => ∃ (ts : List Tk) (ids : List Nat), ts.length ≤ j + 1 ∧ Play w.heap.size bp c rb k u9 ts ids w wx)
          case first =>
            clear HCC HA HBW hcell
            by_cases hT : q % 2 = 0 ∨ ts.length = 0
            · rw [decide_eq_true hT]
              have HT := Lib.hid hT
              clear hT
              cases ids with
              | nil =>
                go_wp2_with fail
                refine (take_empty bp c k _ HP.out.row).mono ?_
                rintro e w' ⟨rfl, rfl⟩
                obtain ⟨vr, vl, vi, hrp⟩ := HP.out.rp
                go_wp2_with fail
                refine (ref_none _ hrp).mono ?_
                rintro e w' ⟨rfl, rfl⟩
                clear hrp
                go_wp2_with fail
                go_meet
                exact ⟨ts, [], by omega, HP.out⟩
              | cons d ids =>
                go_wp2_with fail
                refine (take_row bp c k d ids _ HP.out.row).mono ?_
                rintro e wa ⟨rfl, hza, hca, hra, hta⟩
                have hlens : ids.length + 1 + (lives ts).length = k := HP.out.cnt
                obtain ⟨vr, vl, vi, hrp⟩ := HP.out.rp
                have hrpa := hrp.far hca HP.out.row.plain
                have htla := HP.out.tl.chan HP.out.row hca
                have HBL := Lib.hid (hca.below HP.out.below HP.out.size (by simpa using HP.out.hc))
                have HWR := Lib.hid HP.out.size
                have HBT : Hid (∀ y ∈ ts, y.bt ≠ wr.heap.size) := Lib.hid (fun y hy => by have := (HP.out.tl.tok y hy).2.lt; omega)
                have HSZ := Lib.hid (show w.heap.size ≤ wa.heap.size by have := HP.out.size; omega)
                have Hc := Lib.hid HP.out.hc
                have HRP := Lib.hid hrpa
                have HTL := Lib.hid htla
                have HTA := Lib.hid hta
                have HRA := Lib.hid hra
                have HLN := Lib.hid hlens
                clear hza hca hra hta hrp hrpa htla HP hlens
                go_wp2_with fail
                refine (ref_take d _ HRP.out (by have := HLN.out; omega) (by simp; omega) (by simp; omega)).mono ?_
                rintro e wb ⟨rfl, ⟨vr1, vl1, vi1, hr1⟩, hk1'⟩
                obtain ⟨a3, cap3, rfl⟩ := own_len hr1.ids
                have hli : (ts.map Tk.id ++ [d]).length = ts.length + 1 := by simp
                have hli2 : (ts.map Tk.id).length = ts.length := by simp
                rw [hli] at hr1
                rw [hli2]
                obtain ⟨g3, cp3, hv3, hg3⟩ := own_slice (n := ts.length + 1) (by have := hr1.ids; rw [hli] at this; exact this) (by omega)
                simp only [Value.slice.injEq] at hv3
                obtain ⟨rfl, _, rfl⟩ := hv3
                have hids : wb.ownsRow w.heap.size 3 1 (.slice (some ⟨g3, 0, none⟩) (ts.length + 1) cap3) (ts.length + 1) ((ts.map Tk.id ++ [d]).map num) := by have := hr1.ids; rw [hli] at this; exact this
                have c3 : wb.cell? ⟨rb, 3, none⟩ = some (.slice (some ⟨g3, 0, none⟩) (ts.length + 1) cap3) := cell_of (i := 3) hr1.blk rfl
                have cD : wb.cell? ⟨g3, ts.length, none⟩ = some (.int .i64 (d : Nat)) := by
                  rw [hids.cellAt ts.length (by omega), List.getElem?_map, List.getElem?_append_right (by simp)]
                  simp [num]
                have HR1 := Lib.hid hr1
                have HTL2 := Lib.hid (hk1'.tl HTL.out)
                have HTA2 := Lib.hid (hk1'.tok HTA.out)
                have HRA2 := Lib.hid (hk1'.row HRA.out)
                have HBL2 := Lib.hid (hk1'.below HBL.out HSZ.out)
                have HSZ2 := Lib.hid (show w.heap.size ≤ wb.heap.size by have := hk1'.size; have := HSZ.out; omega)
                clear hr1 hids hk1' HTL HTA HRA HBL HSZ HRP hli hli2 hg3
                go_wp2_with fail
                go_quiet ((go_at_call 11; refine Calls.quiet_of_same (id_any _ _ _ _ _ HTA2.out)))
                have HR3 : Hid (Rp w.heap.size rb k ids (ts.map Tk.live ++ [true]) (ts.map Tk.id ++ [d]) vr1 vl1 (.slice (some ⟨g3, 0, none⟩) (ts.length + 1) cap3) (wb.drewN nq)) :=
                  Lib.hid (HR1.out.next ((Ch.refl [] _).drewN nq) (by simp) (by simp) (by simp) (by simp))
                have HTL3 : Hid (TL w.heap.size bp (.slice a ts.length cap) ts (wb.drewN nq)) := Lib.hid (HTL2.out.quiet ((Ch.refl [] _).drewN nq))
                have HTA3 : Hid (Tok wr.heap.size bp d true (wb.drewN nq)) := HTA2
                have HRA3 : Hid (Row bp c k ids (wb.drewN nq)) := HRA2
                have HBL3 : Hid (Below w.heap.size w (wb.drewN nq)) := Lib.hid (((Ch.refl [] wb).drewN nq).below HBL2.out HSZ2.out (by simp))
                have HSZ3 : Hid (w.heap.size ≤ (wb.drewN nq).heap.size) := HSZ2
                clear HR1 HTL2 HTA2 HRA2 HBL2 HSZ2 c3 cD
                generalize wb.drewN nq = wq at *
                go_wp2_with (at_builtin; refine wpList_append_own _ rfl _ _ 33 rfl w.heap.size 28 i0 (.pointer none) 1 8 Try.underlying33 hi hz0 hz1 hz2 rfl (by decide) _ _ _ rfl (HTL3.out.own.alloc _) ⟨wq.heap.size, 0, none⟩ 1 1 [.pointer (some ⟨wr.heap.size, 0, none⟩)] rfl rfl ?c1 ?c2 ?c3 ?c4 ?c5 ?_)
                case c1 =>
                  intro j u hj
                  match j, hj with
                  | 0, hj => simp at hj; subst hj; simp [Addr.add]
                case c2 => intro u hu; simp at hu; subst hu; rfl
                case c3 => unfold maxLen; omega
                case c4 => omega
                case c5 => have := HSZ3.out; simp; omega
                intro v' we hown' hgrow _
                have al : ∀ o, Ch [] wq (wq.alloc o) := fun o => (Ch.refl _ _).alloc o
                have htl := (HTL3.out.quiet (al _)).more (t := ⟨wr.heap.size, d, true⟩) (HTA3.out.next (al _) (by simp)) HWR.out HBT.out hown' hgrow
                have hra' := (HRA3.out.next (al _) (by simp) (by simp)).grown (HTL3.out.quiet (al _)).own hgrow
                have hrp' := (HR3.out.alloc (.cells #[.pointer (some ⟨wr.heap.size, 0, none⟩)] 28)).far (chOf hgrow) (own_plain (HTL3.out.quiet (al _)).own)
                have hbb : Below w.heap.size w we := Below.grown (HBL3.out.alloc HSZ3.out _) hgrow (by have := HSZ3.out; simp; omega) (fun g hg => (HTL3.out.own.lt g hg).1)
                have hfb : Play w.heap.size bp c rb k v' (ts ++ [⟨wr.heap.size, d, true⟩]) ids w we :=
                  ⟨htl, hra', ⟨_, _, _, by simpa using hrp'⟩, hbb, Hc.out, by have := HLN.out; rw [lives_app, lives_one, if_pos rfl, List.length_append, List.length_singleton]; omega⟩
                have HF := Lib.hid hfb
                clear hfb hbb hra' hrp' htl hown' hgrow al
                go_wp2_with fail
                go_meet
                exact ⟨_, ids, by simp; omega, HF.out⟩
            · rw [decide_eq_false hT]
              have hts : 0 < ts.length := by omega
              have HT := Lib.hid hT
              clear hT
              obtain ⟨g, rfl⟩ := hag hts
              have hJ : (q / 2) % ts.length < ts.length := Nat.mod_lt _ hts
              have hJe : ((q : Int) / 2) % (ts.length : Int) = ((q / 2 % ts.length : Nat) : Int) := by simp
              have hJm : ((q : Int) / 2).tmod (ts.length : Int) = ((q / 2 % ts.length : Nat) : Int) := by
                rw [Int.tmod_eq_emod_of_nonneg (by omega)]; exact hJe
              generalize q / 2 % ts.length = J at hJ hJe hJm
              have hcJ := HP.out.tl.cell rfl hJ
              have hn0 : ¬ ts.length = 0 := by omega
              obtain ⟨vr, vl, vi, hrp⟩ := HP.out.rp
              have HRP := Lib.hid hrp
              clear hrp
              go_wp2_with fail
              cases hlv : (ts[J]'hJ).live with
              | false =>
                have htk := HP.out.tl.get hJ
                rw [hlv] at htk
                refine (end_again bp bp _ _ _ htk).mono ?_
                rintro e w' ⟨rfl, rfl⟩
                clear hcJ hJe hJm htk
                go_wp2_with fail
                refine (ref_dead J _ HRP.out (by simpa using hJ) (by simpa using hlv)).mono ?_
                rintro e w' ⟨rfl, rfl⟩
                clear hlv
                go_wp2_with fail
                go_meet
                exact ⟨ts, ids, by omega, HP.out⟩
              | true =>
                have htk := HP.out.tl.get hJ
                rw [hlv] at htk
                have hle := (lives_ended ts J hJ hlv).length_eq
                have hcnt := HP.out.cnt
                have hlt : ids.length < k := by
                  simp at hle
                  omega
                refine (end_row bp c k _ _ ids _ HP.out.row htk hlt).mono ?_
                rintro e wa ⟨rfl, hza, hca, hra, hta⟩
                have htl := HP.out.tl.ended HP.out.row hJ hca hta
                have hpl : ∀ x ∈ [c, (ts[J]'hJ).bt], ∃ o, wr.heap[x]? = some o ∧ Plain o := by
                  intro x hx
                  rcases List.mem_cons.1 hx with rfl | hx
                  · exact HP.out.row.plain _ (by simp)
                  · obtain rfl : x = (ts[J]'hJ).bt := by simpa using hx
                    exact ⟨_, htk, ⟨by decide, by decide, by decide⟩⟩
                have hrpa := HRP.out.far hca hpl
                have hbl := hca.below HP.out.below HP.out.size (by
                  intro x hx
                  rcases List.mem_cons.1 hx with rfl | hx
                  · exact HP.out.hc
                  · obtain rfl : x = (ts[J]'hJ).bt := by simpa using hx
                    exact (HP.out.tl.tok _ (List.getElem_mem hJ)).1)
                have HTL := Lib.hid htl
                have HRA := Lib.hid hra
                have HRPA := Lib.hid hrpa
                have HBL := Lib.hid hbl
                have Hc := Lib.hid HP.out.hc
                have HSZ := Lib.hid (show w.heap.size ≤ wa.heap.size by have := HP.out.size; omega)
                have HLE := Lib.hid hle
                have HLV := Lib.hid hlv
                clear hcJ hJe hJm htk hlv hca hza hra hta HP htl hpl hrpa hbl hle HRP
                generalize hbt : (ts[J]'hJ).bt = bt at HTL ⊢
                go_wp2_with fail
                refine (ref_end J _ HRPA.out (by simpa using hJ) (by simpa using hJ) (by simpa using HLV.out) (by omega)).mono ?_
                rintro e wb ⟨rfl, ⟨vr1, hr1⟩, hk1'⟩
                have hfb : Play w.heap.size bp c rb k (.slice (some ⟨g, 0, none⟩) ts.length cap) (ts.set J ⟨bt, (ts[J]'hJ).id, false⟩) (ids ++ [(ts[J]'hJ).id]) w wb := by
                  refine ⟨hk1'.tl HTL.out, hk1'.row HRA.out, ⟨vr1, vl, vi, ?_⟩, hk1'.below HBL.out HSZ.out, Hc.out, ?_⟩
                  · have e1 : (ts.set J ⟨bt, (ts[J]'hJ).id, false⟩).map Tk.live = (ts.map Tk.live).set J false := by rw [List.map_set]
                    have e2 : (ts.set J ⟨bt, (ts[J]'hJ).id, false⟩).map Tk.id = ts.map Tk.id := by
                      rw [← hbt]; exact ids_set hJ
                    rw [e1, e2]
                    simpa using hr1
                  · have := HLE.out
                    rw [hbt] at this
                    simp at this ⊢
                    omega
                have HF := Lib.hid hfb
                clear hfb hr1 hk1' HTL HRA HRPA HBL
                go_wp2_with fail
                go_meet
                exact ⟨_, _, by simp; omega, HF.out⟩
          case rest =>
            obtain ⟨ts2, ids2, hl2, hp2⟩ := hcut
            obtain ⟨a2, cap2, hv2, hag2⟩ : ∃ (a : Option Addr) (cap : Nat), u9 = .slice a ts2.length cap ∧ (0 < ts2.length → ∃ g, a = some ⟨g, 0, none⟩) := by
              rcases hp2.tl.own.2 with ⟨rfl, h0⟩ | ⟨g, cap, cur, rfl, _⟩
              · exact ⟨none, 0, by rw [h0], fun h => absurd h (by omega)⟩
              · exact ⟨_, _, rfl, fun _ => ⟨g, rfl⟩⟩
            subst hv2
            have HF := Lib.hid hp2
            clear hp2 HP hcell
            go_wp2_with fail
            go_loopw [17, 106] (fun lv i wr => ∃ y : Nat, i = .int .i64 y ∧ y ≤ ts2.length ∧ lv = .int .i64 ((lives (ts2.take y)).length : Nat) ∧ Play w.heap.size bp c rb k (.slice a2 ts2.length cap2) ts2 ids2 w wr) (fun _ i _ => ts2.length - (intOf i).toNat)
            case atStart => exact ⟨0, rfl, by omega, by simp [lives_nil], HF.out⟩
            case round =>
              clear HF
              obtain ⟨y, rfl, hy, rfl, hf⟩ := hrel
              have HF := Lib.hid hf
              clear hf
              by_cases hyl : y < ts2.length
              · obtain ⟨g, rfl⟩ := hag2 (by omega)
                have hcy := HF.out.tl.cell rfl hyl
                have hty := HF.out.tl.get hyl
                obtain ⟨vr, vl, vi, hrp⟩ := HF.out.rp
                have hol : wr.ownsRow w.heap.size 4 1 vl ts2.length ((ts2.map Tk.live).map Value.bool) := by have := hrp.live; rw [List.length_map] at this; exact this
                have hoi : wr.ownsRow w.heap.size 3 1 vi ts2.length ((ts2.map Tk.id).map num) := by have := hrp.ids; rw [List.length_map] at this; exact this
                obtain ⟨gl, cl, rfl, _⟩ := own_slice hol (by omega)
                obtain ⟨gi, ci, rfl, _⟩ := own_slice hoi (by omega)
                have c2 : wr.cell? ⟨rb, 2, none⟩ = some (.slice (some ⟨gl, 0, none⟩) ts2.length cl) := cell_of (i := 2) hrp.blk rfl
                have c3 : wr.cell? ⟨rb, 3, none⟩ = some (.slice (some ⟨gi, 0, none⟩) ts2.length ci) := cell_of (i := 3) hrp.blk rfl
                have cL : wr.cell? ⟨gl, y, none⟩ = some (.bool (ts2[y]'hyl).live) := by
                  rw [hol.cellAt y (by omega), List.getElem?_map, List.getElem?_map, List.getElem?_eq_getElem hyl]; rfl
                have cI : wr.cell? ⟨gi, y, none⟩ = some (.int .i64 ((ts2[y]'hyl).id : Nat)) := by
                  rw [hoi.cellAt y (by omega), List.getElem?_map, List.getElem?_map, List.getElem?_eq_getElem hyl]; rfl
                have hLy : (lives (ts2.take y)).length ≤ 12 := by
                  have h1 := (lives_take_sub ts2 y).length_le
                  have h2 := HF.out.cnt
                  omega
                have hLL : Hid ((lives (ts2.take (y + 1))).length = (lives (ts2.take y)).length + (if (ts2[y]'hyl).live then 1 else 0)) := Lib.hid (by
                  rw [lives_take hyl, List.length_append]; split <;> simp)
                generalize (lives (ts2.take y)).length = Ly at hLy hLL ⊢
                generalize (ts2[y]'hyl).bt = bt at hcy hty
                generalize (ts2[y]'hyl).id = id at hty cI
                generalize (ts2[y]'hyl).live = lv at hty cL hLL
                have HTY := Lib.hid hty
                clear hrp hol hoi hty
                cases lv with
                | true =>
                  have hLL2 : Hid ((lives (ts2.take (y + 1))).length = Ly + 1) := hLL
                  clear hLL
                  go_wp2_with fail
                  go_quiet (first
                    | (go_at_call 14; refine Calls.quiet_of_same (live_any _ _ _ _ _ HTY.out))
                    | (go_at_call 11; refine Calls.quiet_of_same (id_any _ _ _ _ _ HTY.out)))
                  have HTY2 : Hid (Tok bt bp id true (wr.drewN nq)) := HTY
                  have HF2 := Lib.hid (HF.out.quiet ((Ch.refl [] _).drewN nq))
                  clear c2 c3 cL cI hcy HF HTY
                  generalize wr.drewN nq = wq at *
                  go_wp2_with fail
                  refine (live_row _ _ _ _ _ HTY2.out).mono ?_
                  rintro e w' ⟨rfl, rfl⟩
                  go_wp2_with fail
                  go_roundw
                  case rel => exact ⟨y + 1, by go_num, by omega, by rw [hLL2.out]; go_num, HF2.out⟩
                  case measure => simp [intOf]; omega
                | false =>
                  have hLL2 : Hid ((lives (ts2.take (y + 1))).length = Ly) := hLL
                  clear hLL
                  go_wp2_with fail
                  go_quiet (first
                    | (go_at_call 14; refine Calls.quiet_of_same (live_any _ _ _ _ _ HTY.out))
                    | (go_at_call 11; refine Calls.quiet_of_same (id_any _ _ _ _ _ HTY.out)))
                  have HTY2 : Hid (Tok bt bp id false (wr.drewN nq)) := HTY
                  have HF2 := Lib.hid (HF.out.quiet ((Ch.refl [] _).drewN nq))
                  clear c2 c3 cL cI hcy HF HTY
                  generalize wr.drewN nq = wq at *
                  go_wp2_with fail
                  refine (live_row _ _ _ _ _ HTY2.out).mono ?_
                  rintro e w' ⟨rfl, rfl⟩
                  go_wp2_with fail
                  go_roundw
                  case rel => exact ⟨y + 1, by go_num, by omega, by rw [hLL2.out], HF2.out⟩
                  case measure => simp [intOf]; omega
              · obtain rfl : y = ts2.length := by omega
                have hlen := HF.out.cnt
                have eT : lives (ts2.take ts2.length) = lives ts2 := by rw [List.take_length]
                go_wp2_with fail
                refine (out_row bp c k ids2 _ HF.out.row (by omega) (by omega)).mono ?_
                rintro e w' ⟨rfl, nd, rfl⟩
                have HP := Lib.hid (HF.out.quiet ((Ch.refl _ _).drewN nd))
                have eL : k - ids2.length = (lives ts2).length := by omega
                rw [eL, eT]
                clear HF hlen eL eT
                generalize wr.drewN nd = wo at *
                generalize (lives ts2).length = L at *
                go_wp2_with fail
                refine (room_row bp c k _ _ HP.out.row).mono ?_
                rintro e w' ⟨rfl, rfl⟩
                go_wp2_with fail
                go_roundw
                case rel => exact ⟨j + 1, ts2, ids2, by go_num, by omega, by omega, by omega, HP.out⟩
                case measure => simp [intOf]; omega
    · go_wp2_with fail
      all_goals go_ret
      all_goals exact ⟨rfl, HP.out.below⟩
end Go.Proofs.Ytppakcijcjgoiaa
