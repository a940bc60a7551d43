/-
  The walk of TokenApart.
-/
import Derived.Test.YtppakcijcjgoiaaPools
import Derived.StillTailTactics
import Derived.Deep.DeepCutAuto
namespace Go.Proofs.Ytppakcijcjgoiaa
open Go.RowKit Go.Conc Go.Maps
set_option linter.unusedVariables false

/-- behind y rounds of the inner loop -/
def ApartB (B bp c bq d k mb y : Nat) (v : Value) (ts : List Tk) (ids : List Nat) (w wr : World) : Prop :=
  Pools B bp c bq d k v ts ids w wr ∧ ∃ D, Seen mb y ts D wr

set_option maxRecDepth 100000 in
set_option maxHeartbeats 4000000 in
theorem apart_walk (n b off len cap0 : Nat) (a0 : Option Addr) (w : World) (hn : n < 256) (ha : 0 < len → a0 = some ⟨b, off, none⟩) (hbw : 0 < len → b < w.heap.size)
    (hc : ∀ j, j < len → ∃ x : Nat, x < 256 ∧ w.cell? ⟨b, off + j, none⟩ = some (.int .u8 x)) :
    Calls Try.prog 5 #[.int .u8 n, .slice a0 len cap0] w fun e w' => e = .returned (.bool true) ∧ Below w.heap.size w w' := by
  obtain ⟨i0, hi, hz0, hz1, hz2⟩ := info_parts Try.info28
  have hmm := @run_makeMap Try.prog
  have HA := Lib.hid ha
  have HBW := Lib.hid hbw
  have HCC := Lib.hid hc
  clear ha hbw hc
  go_enter Try.func5, Try.ntmps5
  go_wp2_with fail
  refine (awake_any _).mono ?_
  rintro e w1 ⟨rfl, hb1⟩
  have HB1 := Lib.hid hb1
  clear hb1
  go_wp2_with fail
  have eK : (1 : Int) + (n : Int) % 10 = ((1 + n % 10 : Nat) : Int) := by omega
  have hk1 : 1 ≤ 1 + n % 10 := by omega
  have hk2 : 1 + n % 10 ≤ 10 := by omega
  rw [eK]
  clear eK
  generalize 1 + n % 10 = k at hk1 hk2 ⊢
  refine (new_row k _ hk1 (by omega)).mono ?_
  rintro e w2 ⟨rfl, hz2', hc2, hr2⟩
  have HB2 := Lib.hid (hc2.below HB1.out HB1.out.size (by simp))
  have HQ := Lib.hid (show w.heap.size ≤ w1.heap.size from HB1.out.size)
  clear hz2'
  generalize hbp : w1.heap.size + 1 = bp at hr2 ⊢
  generalize hcc : w1.heap.size = c at hr2 HQ
  have HBC := Lib.hid (show bp = c + 1 by omega)
  clear hbp hcc hc2 HB1
  go_wp2_with fail
  refine (new_row k _ hk1 (by omega)).mono ?_
  rintro e w3 ⟨rfl, hz3', hc3, hr3⟩
  have HB3 := Lib.hid (hc3.below HB2.out HB2.out.size (by simp))
  have hr2' := hr2.next hc3 (by simp) (by simp)
  have HNE := Lib.hid (show bp ≠ w2.heap.size + 1 ∧ c ≠ w2.heap.size by have := hr2.lt; omega)
  clear hz3' hc3 HB2 hr2
  generalize w2.heap.size + 1 = bq at hr3 HNE ⊢
  generalize w2.heap.size = d at hr3 HNE
  have HP : Hid (Pools w.heap.size bp c bq d k (.slice none 0 0) [] (List.range' 1 k) w w3) :=
    Lib.hid ⟨TL.nil _ _ _, hr2', hr3, HB3.out, HQ.out, fun e => HNE.out.1 e.symm, fun e => HNE.out.2 e.symm, by simp [lives_nil], by simp⟩
  clear hr2' hr3 HB3 HQ HNE HBC
  go_wp2_with fail
  go_loopw [10, 37] (fun v i wr => ∃ (j : Nat) (ts : List Tk) (ids : List Nat), i = .int .i64 j ∧ j ≤ len ∧ j ≤ 60 ∧ ts.length ≤ j ∧ Pools w.heap.size bp c bq d k v ts ids w wr) (fun _ i _ => len - (intOf i).toNat)
  case atStart => exact ⟨0, [], _, rfl, by omega, by omega, by simp, HP.out⟩
  case round =>
    clear HP
    obtain ⟨j, ts, ids, rfl, hj, hj60, hl, hp⟩ := hrel
    have HP := Lib.hid hp
    clear hp
    by_cases hjl : j < len
    · have ha' := HA.out (by omega)
      subst ha'
      obtain ⟨q, hq, hcq⟩ := HCC.out j hjl
      have hcell : wr.cell? ⟨b, off + j, none⟩ = some (.int .u8 q) := (HP.out.below.cell (by exact HBW.out (by omega))).trans hcq
      clear hcq
      by_cases h60 : 60 ≤ j
      · go_wp2_with fail
        all_goals go_ret
        all_goals exact ⟨rfl, HP.out.below⟩
      · go_upto_if 46 with fail
        go_cut [10] (fun u10 wx => ∃ (ts : List Tk) (ids : List Nat), ts.length ≤ j + 1 ∧ Pools w.heap.size bp c bq d k u10 ts ids w wx)
        case first =>
          clear HCC HA HBW
          by_cases h3 : 0 < q % 3
          · cases ids with
            | nil =>
              go_wp2_with fail
              refine (take_empty bp c k _ HP.out.row).mono ?_
              rintro e w' ⟨rfl, rfl⟩
              go_wp2_with fail
              go_meet
              exact ⟨ts, [], by omega, HP.out⟩
            | cons i ids =>
              go_wp2_with fail
              refine (take_row bp c k i ids _ HP.out.row).mono ?_
              rintro e wa ⟨rfl, hza, hca, hra, hta⟩
              have HTL := Lib.hid (HP.out.tl.chan HP.out.row hca)
              have HFA := Lib.hid (HP.out.far.next hca (by simpa using row_row HP.out.far HP.out.row) (by simpa using HP.out.n2))
              have HBL := Lib.hid (hca.below HP.out.below HP.out.size (by simpa using HP.out.hc))
              have HWR := Lib.hid HP.out.size
              have HBT : Hid (∀ y ∈ ts, y.bt ≠ wr.heap.size) := Lib.hid (fun y hy => by have := (HP.out.tl.tok y hy).2.lt; omega)
              have HRA := Lib.hid hra
              have HTA := Lib.hid hta
              have HSZ := Lib.hid (show w.heap.size ≤ wa.heap.size by have := HP.out.size; omega)
              have HPC : Hid (w.heap.size ≤ c ∧ bq ≠ bp ∧ d ≠ c ∧ (ids ++ (lives ts ++ [i])).Perm (List.range' 1 k) ∧ (∀ t ∈ ts, 1 ≤ t.id ∧ t.id ≤ k) ∧ 1 ≤ i ∧ i ≤ k) := by
                have hpm : (ids ++ (lives ts ++ [i])).Perm (List.range' 1 k) := by
                  rw [← List.append_assoc]
                  exact (List.perm_append_comm (l₁ := ids ++ lives ts) (l₂ := [i])).trans HP.out.perm
                have hmem : i ∈ List.range' 1 k := hpm.mem_iff.1 (by simp)
                rw [List.mem_range'_1] at hmem
                exact Lib.hid ⟨HP.out.hc, HP.out.n1, HP.out.n2, hpm, HP.out.range, by omega, by omega⟩
              clear hza hca hra hta HP
              go_wp2_with (at_builtin; refine wpList_append_own _ rfl _ _ 33 rfl w.heap.size 28 i0 (.pointer none) 1 8 Try.underlying33 hi hz0 hz1 hz2 rfl (by decide) _ _ _ rfl (HTL.out.own.alloc _) ⟨wa.heap.size, 0, none⟩ 1 1 [.pointer (some ⟨wr.heap.size, 0, none⟩)] rfl rfl ?c1 ?c2 ?c3 ?c4 ?c5 ?_)
              case c1 =>
                intro j u hj
                match j, hj with
                | 0, hj => simp at hj; subst hj; simp [Addr.add]
              case c2 => intro u hu; simp at hu; subst hu; rfl
              case c3 => unfold maxLen; omega
              case c4 => omega
              case c5 => have := HSZ.out; simp; omega
              intro v' wb hown' hgrow _
              have al : ∀ o, Ch [] wa (wa.alloc o) := fun o => (Ch.refl _ _).alloc o
              have htl := (HTL.out.quiet (al _)).more (t := ⟨wr.heap.size, i, true⟩) (HTA.out.next (al _) (by simp)) HWR.out HBT.out hown' hgrow
              have hra' := (HRA.out.next (al _) (by simp) (by simp)).grown (HTL.out.quiet (al _)).own hgrow
              have hfa' := (HFA.out.next (al _) (by simp) (by simp)).grown (HTL.out.quiet (al _)).own hgrow
              have hbb : Below w.heap.size w wb := Below.grown (HBL.out.alloc HSZ.out _) hgrow (by have := HSZ.out; simp; omega) (fun g hg => (HTL.out.own.lt g hg).1)
              have hfb : Pools w.heap.size bp c bq d k v' (ts ++ [⟨wr.heap.size, i, true⟩]) ids w wb := by
                obtain ⟨p1, p2, p3, p4, p5, p6, p7⟩ := HPC.out
                refine ⟨htl, hra', hfa', hbb, p1, p2, p3, ?_, ?_⟩
                · rw [lives_app, lives_one]; exact p4
                · intro t ht
                  rcases List.mem_append.1 ht with h | h
                  · exact p5 t h
                  · simp at h; subst h; exact ⟨p6, p7⟩
              have HF := Lib.hid hfb
              clear hfb hbb hra' hfa' htl hown' hgrow al
              go_wp2_with fail
              go_meet
              exact ⟨_, ids, by simp; omega, HF.out⟩
          · obtain ⟨a, cap, hv, hag⟩ : ∃ (a : Option Addr) (cap : Nat), u10 = .slice a ts.length cap ∧ (0 < ts.length → ∃ g, a = some ⟨g, 0, none⟩) := by
              rcases HP.out.tl.own.2 with ⟨rfl, h0⟩ | ⟨g, cap, cur, rfl, _⟩
              · exact ⟨none, 0, by rw [h0], fun h => absurd h (by omega)⟩
              · exact ⟨_, _, rfl, fun _ => ⟨g, rfl⟩⟩
            subst hv
            by_cases hts : 0 < ts.length
            · obtain ⟨g, rfl⟩ := hag hts
              have hJ : (q / 3) % ts.length < ts.length := Nat.mod_lt _ hts
              have hJe : ((q : Int) / 3) % (ts.length : Int) = ((q / 3 % ts.length : Nat) : Int) := by simp
              have hJm : ((q : Int) / 3).tmod (ts.length : Int) = ((q / 3 % ts.length : Nat) : Int) := by
                rw [Int.tmod_eq_emod_of_nonneg (by omega)]; exact hJe
              generalize q / 3 % ts.length = J at hJ hJe hJm
              have hcJ := HP.out.tl.cell rfl hJ
              have hn0 : ¬ ts.length = 0 := by omega
              go_wp2_with fail
              cases hlv : (ts[J]'hJ).live with
              | false =>
                have htk := HP.out.tl.get hJ
                rw [hlv] at htk
                refine (end_again bp bp _ _ _ htk).mono ?_
                rintro e w' ⟨rfl, rfl⟩
                clear hcJ hJe hJm htk hlv
                go_wp2_with fail
                go_meet
                exact ⟨ts, ids, by omega, HP.out⟩
              | true =>
                have htk := HP.out.tl.get hJ
                rw [hlv] at htk
                have hlt : ids.length < k := by
                  have h1 := HP.out.len
                  have h2 := (lives_ended ts J hJ hlv).length_eq
                  simp at h2
                  omega
                refine (end_row bp c k _ _ ids _ HP.out.row htk hlt).mono ?_
                rintro e wa ⟨rfl, hza, hca, hra, hta⟩
                have HF := Lib.hid (HP.out.ended hJ hlv hca hra hta)
                clear hcJ hJe hJm htk hlv hca hza hra hta HP
                generalize (ts[J]'hJ).bt = bt at HF ⊢
                go_wp2_with fail
                go_meet
                exact ⟨_, _, by simp; omega, HF.out⟩
            · have hn0 : ts.length = 0 := by omega
              go_wp2_with fail
              go_meet
              exact ⟨ts, ids, by omega, HP.out⟩
        case rest =>
          obtain ⟨ts, ids, hl, hp⟩ := hcut
          obtain ⟨a, cap, hv, hag⟩ : ∃ (a : Option Addr) (cap : Nat), u10 = .slice a ts.length cap ∧ (0 < ts.length → ∃ g, a = some ⟨g, 0, none⟩) := by
            rcases hp.tl.own.2 with ⟨rfl, h0⟩ | ⟨g, cap, cur, rfl, _⟩
            · exact ⟨none, 0, by rw [h0], fun h => absurd h (by omega)⟩
            · exact ⟨_, _, rfl, fun _ => ⟨g, rfl⟩⟩
          subst hv
          have hSeen := Seen.made ts wc
          have hpm := hp.quiet ((Ch.refl _ _).alloc (.map #[] 0))
          have HF : Hid (ApartB w.heap.size bp c bq d k wc.heap.size 0 (.slice a ts.length cap) ts ids w (wc.alloc (.map #[] 0))) := Lib.hid ⟨hpm, _, hSeen⟩
          have HMB := Lib.hid (show w.heap.size ≤ wc.heap.size from hp.size)
          clear hSeen hpm hp HP hcell
          go_wp2_with fail
          generalize wc.alloc (.map #[] 0) = wd at HF ⊢
          generalize wc.heap.size = mb at HF HMB ⊢
          go_loopw [16, 75] (fun lv i wr => ∃ y : Nat, i = .int .i64 y ∧ y ≤ ts.length ∧ lv = .int .i64 ((lives (ts.take y)).length : Nat) ∧ ApartB w.heap.size bp c bq d k mb y (.slice a ts.length cap) ts ids w wr) (fun _ i _ => ts.length - (intOf i).toNat)
          case atStart => exact ⟨0, rfl, by omega, by simp [lives_nil], HF.out⟩
          case round =>
            clear HF
            obtain ⟨y, rfl, hy, rfl, hf⟩ := hrel
            have HF := Lib.hid hf
            clear hf
            by_cases hyl : y < ts.length
            · obtain ⟨g, rfl⟩ := hag (by omega)
              have hcy := HF.out.1.tl.cell rfl hyl
              have hty := HF.out.1.tl.get hyl
              have hrg := HF.out.1.range _ (List.getElem_mem hyl)
              go_wp2_with fail
              refine (live_row _ _ _ _ _ hty).mono ?_
              rintro e w' ⟨rfl, rfl⟩
              have hrun : ∀ D, Seen mb y ts D wr → ∀ W, W = wr → (Instr.lookup 37 (.map (some mb)) (.int .i64 ((ts[y]'hyl).id : Int)) false).run Try.prog W = .ok (.int .i64 (if (ts[y]'hyl).id ∈ lives (ts.take y) then 1 else 0)) W := fun D h W hW => by subst hW; exact h.look (by omega)
              generalize hbt : (ts[y]'hyl).bt = bt at hcy hty ⊢
              cases hlv : (ts[y]'hyl).live with
              | true =>
                rw [hlv] at hty
                obtain ⟨D, hs⟩ := HF.out.2
                have hno : (ts[y]'hyl).id ∉ lives (ts.take y) := by
                  intro hm
                  have h1 := lives_take hyl
                  rw [hlv, if_pos rfl] at h1
                  have h2 := (lives_take_sub ts (y + 1)).nodup HF.out.1.nodup
                  rw [h1, List.nodup_append] at h2
                  exact h2.2.2 _ hm _ (by simp) rfl
                have hlk := hrun D hs wr rfl
                rw [if_neg hno] at hlk
                have hP := Lib.hid HF.out.1
                have hS := Lib.hid hs
                have hHas : Hid ((ts[y]'hyl).id ∈ lives (ts.take (y + 1))) := Lib.hid (by rw [lives_take hyl, hlv]; simp)
                have hLL : Hid ((lives (ts.take (y + 1))).length = (lives (ts.take y)).length + 1) := Lib.hid (by rw [lives_take hyl, hlv]; simp)
                have HY := Lib.hid hyl
                have HLV := Lib.hid hlv
                generalize hid : (ts[y]'hyl).id = id at hty hrg hlk
                have HI := Lib.hid hid
                have hLy : (lives (ts.take y)).length ≤ 61 := by
                  have h1 := (lives_take_sub ts y).length_le
                  have h2 := hP.out.len
                  omega
                have HBt := Lib.hid hbt
                generalize (lives (ts.take y)).length = Ly at hLL hLy ⊢
                clear hlv hs HF hno hrun hbt hid
                go_wp2_with fail
                refine (id_row _ _ _ _ _ hty).mono ?_
                rintro e w' ⟨rfl, rfl⟩
                go_wp2_with (at_mapUpdate; refine wpList_mapUpdate_own _ rfl _ _ _ 37 rfl 3 3 law3 Try.underlying37 _ mb y _ rfl hS.out.own (by unfold maxLen; omega) _ _ _ rfl rfl (keyOf_int_mk Try.underlying3 (wf_nat (show id ≤ 4096 by omega))) _ [] (plainElem_int Try.underlying3 (show (Lit.int .i64 (1 : Int)).wf = true by decide)) ?_; intro w1 hown1 hgrow1)
                rw [← HI.out] at hown1
                have hs1 := hS.out.put HY.out HLV.out hown1
                have hp1 := hP.out.mapped hS.out.own HMB.out hgrow1
                have hty1 := hp1.tl.get HY.out
                have hlk1 := hs1.look (id := id) (by omega)
                rw [← HI.out] at hlk1
                rw [if_pos hHas.out] at hlk1
                rw [HI.out] at hlk1 hty1
                rw [HBt.out] at hty1
                have HF : Hid (ApartB w.heap.size bp c bq d k mb (y + 1) (.slice (some ⟨g, 0, none⟩) ts.length cap) ts ids w w1) := Lib.hid ⟨hp1, _, hs1⟩
                clear hs1 hp1 hown1 hgrow1 hS hP hlk hcy hty
                refine (id_row _ _ _ _ _ hty1).mono ?_
                rintro e w' ⟨rfl, rfl⟩
                go_wp2_with fail
                refine (id_row _ _ _ _ _ hty1).mono ?_
                rintro e w' ⟨rfl, rfl⟩
                go_wp2_with fail
                refine (id_row _ _ _ _ _ hty1).mono ?_
                rintro e w' ⟨rfl, rfl⟩
                go_wp2_with fail
                go_roundw
                case rel => exact ⟨y + 1, by go_num, by omega, by rw [hLL.out]; go_num, HF.out⟩
                case measure => simp [intOf]; omega
              | false =>
                rw [hlv] at hty
                obtain ⟨D, hs⟩ := HF.out.2
                have hlk := hrun D hs wr rfl
                have hLL : Hid ((lives (ts.take (y + 1))).length = (lives (ts.take y)).length) := Lib.hid (by rw [lives_take hyl, hlv]; simp)
                have HF2 : Hid (ApartB w.heap.size bp c bq d k mb (y + 1) (.slice (some ⟨g, 0, none⟩) ts.length cap) ts ids w wr) := Lib.hid ⟨HF.out.1, D, hs.quiet hyl hlv⟩
                generalize (lives (ts.take y)).length = Ly at hLL ⊢
                generalize (ts[y]'hyl).id = id at hty hrg hlk
                obtain ⟨cc, hcc, hc1⟩ : ∃ cc : Int, (if id ∈ lives (ts.take y) then (1 : Int) else 0) = cc ∧ cc ≤ 1 := ⟨_, rfl, by split <;> omega⟩
                rw [hcc] at hlk
                clear hlv hs HF hrun hbt hcc
                go_wp2_with fail
                refine (id_row _ _ _ _ _ hty).mono ?_
                rintro e w' ⟨rfl, rfl⟩
                go_wp2_with fail
                refine (id_row _ _ _ _ _ hty).mono ?_
                rintro e w' ⟨rfl, rfl⟩
                go_wp2_with fail
                refine (id_row _ _ _ _ _ hty).mono ?_
                rintro e w' ⟨rfl, rfl⟩
                go_wp2_with fail
                go_roundw
                case rel => exact ⟨y + 1, by go_num, by omega, by rw [hLL.out], HF2.out⟩
                case measure => simp [intOf]; omega
            · obtain rfl : y = ts.length := by omega
              go_wp2_with fail
              have hlen := HF.out.1.len
              have HLen := Lib.hid hlen
              refine (out_row bp c k ids _ HF.out.1.row (by omega) (by omega)).mono ?_
              rintro e w' ⟨rfl, nd, rfl⟩
              have HP := Lib.hid (HF.out.1.quiet ((Ch.refl _ _).drewN nd))
              have eL : k - ids.length = (lives ts).length := by omega
              have eT : lives (ts.take ts.length) = lives ts := by rw [List.take_length]
              rw [eL, eT]
              have hLk : (lives ts).length ≤ k := by omega
              clear HF hlen eL eT
              generalize wr.drewN nd = wo at *
              generalize (lives ts).length = L at *
              go_wp2_with fail
              refine (out_row bq d k _ _ HP.out.far (by omega) (by simp)).mono ?_
              rintro e w' ⟨rfl, nd, rfl⟩
              simp only [List.length_range', Nat.sub_self]
              have HP2 := Lib.hid (HP.out.quiet ((Ch.refl _ _).drewN nd))
              clear HP
              generalize wo.drewN nd = wz at *
              go_wp2_with fail
              go_roundw
              case rel => exact ⟨j + 1, ts, ids, by go_num, by omega, by omega, by omega, HP2.out⟩
              case measure => simp [intOf]; omega
    · go_wp2_with fail
      all_goals go_ret
      all_goals exact ⟨rfl, HP.out.below⟩
end Go.Proofs.Ytppakcijcjgoiaa
