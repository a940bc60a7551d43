/-
  The walk of twig.Longest: the first of the longest beginnings of a string.
-/
import Derived.Test.YtcalklfkihjipaaWalksB
namespace Go.Proofs.Ytcalklfkihjipaa
open Go.RowKit
set_option linter.unusedVariables false

def at_ (xs : List ByteArray) (i : Nat) : ByteArray := xs.getD i ByteArray.empty

/-- what is known of the first k: none begins so far; or b is the first of the longest -/
def Inv (xs : List ByteArray) (s : ByteArray) (k b : Nat) (ok : Bool) : Prop :=
  (ok = false → b = 0 ∧ ∀ i, i < k → beg s (at_ xs i) = false) ∧
  (ok = true → b < k ∧ beg s (at_ xs b) = true ∧ ∀ i, i < k → beg s (at_ xs i) = true → (at_ xs i).size < (at_ xs b).size ∨ ((at_ xs i).size = (at_ xs b).size ∧ b ≤ i))

theorem Inv.zero (xs : List ByteArray) (s : ByteArray) : Inv xs s 0 0 false :=
  ⟨fun _ => ⟨rfl, fun i h => by omega⟩, fun h => by cases h⟩
theorem Inv.miss {xs : List ByteArray} {s : ByteArray} {k b : Nat} {ok : Bool} (h : Inv xs s k b ok) (hm : beg s (at_ xs k) = false) : Inv xs s (k + 1) b ok := by
  refine ⟨fun ho => ⟨(h.1 ho).1, fun i hi => ?_⟩, fun ho => ⟨by have := (h.2 ho).1; omega, (h.2 ho).2.1, fun i hi hb => ?_⟩⟩
  · by_cases hik : i = k
    · rw [hik]; exact hm
    · exact (h.1 ho).2 i (by omega)
  · by_cases hik : i = k
    · rw [hik, hm] at hb; cases hb
    · exact (h.2 ho).2.2 i (by omega) hb
theorem Inv.first {xs : List ByteArray} {s : ByteArray} {k b : Nat} (h : Inv xs s k b false) (hm : beg s (at_ xs k) = true) : Inv xs s (k + 1) k true := by
  refine ⟨(fun ho => by cases ho), fun _ => ⟨by omega, hm, fun i hi hb => ?_⟩⟩
  by_cases hik : i = k
  · subst hik; exact .inr ⟨rfl, Nat.le_refl _⟩
  · rw [(h.1 rfl).2 i (by omega)] at hb; cases hb
theorem Inv.more {xs : List ByteArray} {s : ByteArray} {k b : Nat} (h : Inv xs s k b true) (hm : beg s (at_ xs k) = true) (hl : (at_ xs b).size < (at_ xs k).size) : Inv xs s (k + 1) k true := by
  refine ⟨(fun ho => by cases ho), fun _ => ⟨by omega, hm, fun i hi hb => ?_⟩⟩
  by_cases hik : i = k
  · subst hik; exact .inr ⟨rfl, Nat.le_refl _⟩
  · rcases (h.2 rfl).2.2 i (by omega) hb with g | g <;> (left; omega)
theorem Inv.less {xs : List ByteArray} {s : ByteArray} {k b : Nat} (h : Inv xs s k b true) (hl : ¬ (at_ xs b).size < (at_ xs k).size) : Inv xs s (k + 1) b true := by
  refine ⟨(fun ho => by cases ho), fun _ => ⟨by have := (h.2 rfl).1; omega, (h.2 rfl).2.1, fun i hi hb => ?_⟩⟩
  by_cases hik : i = k
  · subst hik
    have := (h.2 rfl).1
    by_cases he : (at_ xs i).size = (at_ xs b).size
    · exact .inr ⟨he, by omega⟩
    · left; omega
  · exact (h.2 rfl).2.2 i (by omega) hb

def LongPost (xs : List ByteArray) (s : ByteArray) (n : Nat) (w : World) (e : Ending) (w' : World) : Prop :=
  (∃ b ok, e = .returned (.tuple #[.int .i64 (b : Nat), .bool ok]) ∧ Inv xs s n b ok) ∧ w = w'

set_option maxHeartbeats 1000000 in
theorem longest_any (g n cap : Nat) (xs : List ByteArray) (s : ByteArray) (w : World) (hn : n ≤ 1000)
    (hc : ∀ j, j < n → w.cell? ⟨g, j, none⟩ = some (.string (at_ xs j))) :
    Calls Try.prog 20 #[.slice (some ⟨g, 0, none⟩) n cap, .string s] w (LongPost xs s n w) := by
  go_enter Try.func20, Try.ntmps20
  go_wp2
  go_loop [6, 7, 12] (fun bv ov i => ∃ (k b : Nat) (ok : Bool), i = .int .i64 k ∧ k ≤ n ∧ bv = .int .i64 b ∧ ov = .bool ok ∧ Inv xs s k b ok ∧ (ok = true → b < k)) (fun _ _ i => n - (intOf i).toNat)
  case atStart => exact ⟨0, 0, false, rfl, by omega, rfl, rfl, Inv.zero xs s, fun h => by cases h⟩
  case round =>
    obtain ⟨k, b, ok, rfl, hk, rfl, rfl, hinv, hbk⟩ := hrel
    have HI := Lib.hid hinv
    clear hinv
    by_cases hlt : k < n
    · have ck := hc k hlt
      cases hg : beg s (at_ xs k)
      · have HG := Lib.hid hg
        clear hg
        go_wp2_with fail
        refine (tbegins_any s (at_ xs k) _).mono ?_
        rintro e w1 ⟨rfl, rfl⟩
        rw [HG.out]
        go_wp2
        go_round
        case rel => exact ⟨k + 1, b, ok, by go_num, by omega, rfl, rfl, HI.out.miss HG.out, fun h => by have := hbk h; omega⟩
        case measure => simp [intOf]; omega
      · have HG := Lib.hid hg
        clear hg
        cases ok
        · go_wp2_with fail
          refine (tbegins_any s (at_ xs k) _).mono ?_
          rintro e w1 ⟨rfl, rfl⟩
          rw [HG.out]
          go_wp2
          go_round
          case rel => exact ⟨k + 1, k, true, by go_num, by omega, rfl, rfl, HI.out.first HG.out, fun _ => by omega⟩
          case measure => simp [intOf]; omega
        · have hb1 := hbk rfl
          have cb := hc b (by omega)
          by_cases hl : (at_ xs b).size < (at_ xs k).size
          · go_wp2_with fail
            refine (tbegins_any s (at_ xs k) _).mono ?_
            rintro e w1 ⟨rfl, rfl⟩
            rw [HG.out]
            go_wp2
            go_round
            case rel => exact ⟨k + 1, k, true, by go_num, by omega, rfl, rfl, HI.out.more HG.out hl, fun _ => by omega⟩
            case measure => simp [intOf]; omega
          · go_wp2_with fail
            refine (tbegins_any s (at_ xs k) _).mono ?_
            rintro e w1 ⟨rfl, rfl⟩
            rw [HG.out]
            go_wp2
            go_round
            case rel => exact ⟨k + 1, b, true, by go_num, by omega, rfl, rfl, HI.out.less hl, fun _ => by omega⟩
            case measure => simp [intOf]; omega
    · go_wp2
      go_ret2
      have hkn : k = n := by omega
      exact ⟨⟨b, ok, rfl, by rw [← hkn]; exact HI.out⟩, rfl⟩

set_option maxHeartbeats 400000 in
theorem longest_nil (s : ByteArray) (w : World) :
    Calls Try.prog 20 #[.slice none 0 0, .string s] w fun e w' => e = .returned (.tuple #[.int .i64 0, .bool false]) ∧ w' = w := by
  go_enter Try.func20, Try.ntmps20
  go_wp2
  refine wp_loop_rounds 1 ?_
  rw [rounds_succ]
  go_wp2
  go_ret2
  exact ⟨rfl, rfl⟩

/-! the law -/

/-- what has been gathered behind k rounds -/
def G (ss : List ByteArray) (k : Nat) : List ByteArray := (ss.take (min k 20)).map fewB

theorem G_len (ss : List ByteArray) (k : Nat) (h : k ≤ ss.length) : (G ss k).length = min k 20 := by
  unfold G; rw [List.length_map, List.length_take]; omega
theorem G_step (ss : List ByteArray) (k : Nat) (h : k < ss.length) (hk : k < 20) : G ss (k + 1) = G ss k ++ [fewB (ss.getD k ByteArray.empty)] := by
  unfold G
  rw [Nat.min_eq_left (by omega), Nat.min_eq_left (by omega), List.take_succ_eq_append_getElem h, List.map_append]
  simp [List.getD_eq_getElem?_getD, h]
theorem G_stay (ss : List ByteArray) (k : Nat) (hk : 20 ≤ k) : G ss (k + 1) = G ss k := by
  unfold G; rw [Nat.min_eq_right (by omega), Nat.min_eq_right hk]
theorem G_small (ss : List ByteArray) (k : Nat) : ∀ x ∈ G ss k, x.size ≤ 60 := by
  intro x hx
  unfold G at hx
  obtain ⟨y, _, rfl⟩ := List.mem_map.1 hx
  exact fewB_size y
theorem at_small (ss : List ByteArray) (k j : Nat) : (at_ (G ss k) j).size ≤ 60 := by
  unfold at_
  by_cases h : j < (G ss k).length
  · rw [List.getD_eq_getElem?_getD, List.getElem?_eq_getElem h]
    exact G_small ss k _ (List.getElem_mem h)
  · rw [List.getD_eq_getElem?_getD, List.getElem?_eq_none (by omega)]
    exact Nat.zero_le _

theorem few_w (s : ByteArray) (w : World) :
    Calls Try.prog 9 #[.string s] w fun e w' => e = .returned (.string (fewB s)) ∧ w = w' :=
  (few_any s w).mono fun _ _ ⟨he, hw⟩ => ⟨he, hw.symm⟩

theorem Try.info9 : (Try.prog.info? 9).map (fun i => (i.zero, i.size, i.bytes)) = some (some (.string ByteArray.empty), 1, 16) := by kernel_rfl

set_option maxHeartbeats 2000000 in
theorem longest_walk (b off len cap : Nat) (ss : List ByteArray) (s0 : ByteArray) (w : World) (hreach : len * 16 ≤ 140737488351232) (hl : len ≤ ss.length) (hb : b < w.heap.size)
    (hc : ∀ j, j < ss.length → w.cell? ⟨b, off + j, none⟩ = some (.string (at_ ss j))) :
    Calls Try.prog 7 #[.slice (some ⟨b, off, none⟩) len cap, .string s0] w fun e w' => e = .returned (.bool true) ∧ Below w.heap.size w w' := by
  obtain ⟨i0, hi, hz0, hz1, hz2⟩ := info_parts Try.info9
  go_enter Try.func7, Try.ntmps7
  go_wp2_with fail
  refine (awake_any _).mono ?_
  rintro e w1 ⟨rfl, hb1⟩
  have hs1 := hb1.size
  go_wp2_with fail
  go_loopw [5, 18] (fun v i wr => ∃ k : Nat, k ≤ len ∧ i = .int .i64 k ∧ wr.ownsRow w.heap.size 9 1 v (G ss k).length ((G ss k).map Value.string) ∧ Below w.heap.size w wr) (fun _ i _ => len - (intOf i).toNat)
  case atStart => exact ⟨0, Nat.zero_le _, rfl, World.ownsRow_nil _ _ _ _, hb1⟩
  case round =>
    obtain ⟨k, hk, rfl, hown, hnx⟩ := hrel
    by_cases hlt : k < len
    · have ck : wr.cell? ⟨b, off + k, none⟩ = some (.string (at_ ss k)) := (hnx.cell (by exact hb)).trans (hc k (by omega))
      by_cases h20 : k < 20
      · go_wp2_with (first
          | (go_at_call 9; refine (few_w _ _).mono ?_; rintro e w' ⟨rfl, rfl⟩)
          | (at_builtin; refine wpList_append_own _ rfl _ _ 30 rfl w.heap.size 9 i0 (.string ByteArray.empty) 1 16 Try.underlying30 hi hz0 hz1 hz2 rfl (by decide) _ _ _ rfl (hown.alloc _) ⟨wr.heap.size, 0, none⟩ 1 1 [.string (fewB (at_ ss k))] rfl rfl ?c1 ?c2 ?c3 ?c4 ?c5 ?_))
        case c1 =>
          intro j u hj
          match j, hj with
          | 0, hj => simp at hj; subst hj; simp [Addr.add]
        case c2 => intro u hu; simp at hu; subst hu; rfl
        case c3 => have := G_len ss k (by omega); unfold maxLen; omega
        case c4 => have := G_len ss k (by omega); omega
        case c5 => have := hnx.size; simp; omega
        intro v' w2 hown' hgrow _
        have hb2 : Below w.heap.size w w2 := Below.grown (hnx.alloc hnx.size _) hgrow (by have := hnx.size; simp; omega) (fun j hj => (hown.lt j hj).1)
        have hown2 : w2.ownsRow w.heap.size 9 1 v' (G ss (k + 1)).length ((G ss (k + 1)).map Value.string) := by
          rw [G_step ss k (by omega) h20, List.length_append, List.map_append]; exact hown'
        clear hown' hgrow hown ck
        go_wp2_with fail
        go_roundw
        case rel => exact ⟨k + 1, by omega, by go_num, hown2, hb2⟩
        case measure => simp [intOf]; omega
      · go_wp2_with fail
        go_roundw
        case rel => exact ⟨k + 1, by omega, by go_num, by rw [G_stay ss k (by omega)]; exact hown, hnx⟩
        case measure => simp [intOf]; omega
    · have hkl : k = len := by omega
      have z1 := fewB_size s0
      have hn20 : (G ss len).length ≤ 20 := by rw [G_len ss len hl]; omega
      have hsm := at_small ss len
      subst hkl
      clear hc hi hz0 hz1 hz2
      generalize G ss k = X at hown hn20 hsm
      generalize hs : fewB s0 = s at z1
      have HS := Lib.hid hs
      clear hs
      have hsz := hnx.size
      have hcell : ∀ g, u5.ownBlock = some g → ∀ j, j < X.length → wr.cell? ⟨g, j, none⟩ = some (.string (at_ X j)) := by
        intro g hg j hj
        have := hown.cells hg j (.string (at_ X j)) (by rw [List.getElem?_map, List.getElem?_eq_getElem hj]; simp [at_, List.getD_eq_getElem?_getD, hj])
        rw [WideShapes.add_plain, Nat.zero_add] at this
        exact this
      have hlt2 := hown.lt
      rcases hown.2 with ⟨rfl, hn0⟩ | ⟨g, cp, cur, rfl, hg, _, _, _, _, _⟩
      · clear hcell hlt2 hown
        go_wp2_with (go_at_call 9; refine (few_w _ _).mono ?_; rintro e w' ⟨rfl, rfl⟩)
        rw [HS.out]
        go_wp2_with fail
        refine (longest_nil s _).mono ?_
        rintro e w' ⟨rfl, rfl⟩
        go_wp2_with fail
        refine wp_loop_rounds 1 ?_
        rw [rounds_succ]
        go_wp2
        go_ret
        exact ⟨rfl, hnx⟩
      · have hc := hcell g rfl
        have hgl := (hlt2 g rfl).2
        clear hcell hlt2 hown
        generalize X.length = n at hn20 hc
        obtain ⟨wo, rfl⟩ : ∃ wo : World, wo = wr := ⟨_, rfl⟩
        go_wp2_with (go_at_call 9; refine (few_w _ _).mono ?_; rintro e w' ⟨rfl, rfl⟩)
        rw [HS.out]
        go_wp2_with fail
        refine (longest_any g n cp X s _ (by omega) hc).mono ?_
        rintro e w' ⟨⟨bi, ok, rfl, hinv⟩, rfl⟩
        cases ok
        · obtain ⟨rfl, hno⟩ := hinv.1 rfl
          clear hinv
          have HN := Lib.hid hno
          clear hno
          go_wp2_with fail
          go_loopw [43] (fun i wq => ∃ j : Nat, i = .int .i64 j ∧ j ≤ n ∧ Below wo.heap.size wo wq) (fun i _ => n - (intOf i).toNat)
          case atStart => exact ⟨0, rfl, by omega, Below.refl _ _⟩
          case round =>
            obtain ⟨j, rfl, hj, hq⟩ := hrel
            by_cases hlt : j < n
            · have cj : wr.cell? ⟨g, j, none⟩ = some (.string (at_ X j)) := (hq.cell (by exact hgl)).trans (hc j hlt)
              go_wp2_with fail
              refine (on hq (rbegins_b s (at_ X j) false _ (by omega) (HN.out j hlt))).mono ?_
              rintro e w' ⟨rfl, hq⟩
              go_wp2_with fail
              go_roundw
              case rel => exact ⟨j + 1, by go_num, by omega, hq⟩
              case measure => simp [intOf]; omega
            · go_wp2
              go_ret
              exact ⟨rfl, hnx.trans (hq.mono hnx.size)⟩
        · obtain ⟨hbn, hbb, hall⟩ := hinv.2 rfl
          clear hinv
          have HN := Lib.hid hall
          have HB := Lib.hid hbb
          clear hall hbb
          have hzb := hsm bi
          go_wp2_with fail
          go_loopw [55] (fun i wq => ∃ j : Nat, i = .int .i64 j ∧ j ≤ n ∧ Below wo.heap.size wo wq) (fun i _ => n - (intOf i).toNat)
          case atStart => exact ⟨0, rfl, by omega, Below.refl _ _⟩
          case round =>
            obtain ⟨j, rfl, hj, hq⟩ := hrel
            by_cases hlt : j < n
            · have cj : wr.cell? ⟨g, j, none⟩ = some (.string (at_ X j)) := (hq.cell (by exact hgl)).trans (hc j hlt)
              cases hg2 : beg s (at_ X j)
              · have HG := Lib.hid hg2
                clear hg2
                go_wp2_with fail
                refine (on hq (rbegins_b s (at_ X j) false _ (by omega) HG.out)).mono ?_
                rintro e w' ⟨rfl, hq⟩
                go_wp2_with fail
                go_roundw
                case rel => exact ⟨j + 1, by go_num, by omega, hq⟩
                case measure => simp [intOf]; omega
              · have HG := Lib.hid hg2
                clear hg2
                have hor := HN.out j hlt HG.out
                go_wp2_with fail
                refine (on hq (rbegins_b s (at_ X j) true _ (by omega) HG.out)).mono ?_
                rintro e w' ⟨rfl, hq⟩
                have cb : w'.cell? ⟨g, bi, none⟩ = some (.string (at_ X bi)) := (hq.cell (by exact hgl)).trans (hc bi hbn)
                by_cases he : (at_ X j).size = (at_ X bi).size
                · have h1 : ¬ (at_ X bi).size < (at_ X j).size := by omega
                  have h2 : (((at_ X j).size : Int) == ((at_ X bi).size : Int)) = true := by rw [he]; simp
                  have h3 : ¬ j < bi := by omega
                  clear hor he
                  go_wp2_with fail
                  go_roundw
                  case rel => exact ⟨j + 1, by go_num, by omega, hq⟩
                  case measure => simp [intOf]; omega
                · have h1 : ¬ (at_ X bi).size < (at_ X j).size := by omega
                  have h2 : (((at_ X j).size : Int) == ((at_ X bi).size : Int)) = false := beq_eq_false_iff_ne.2 (by omega)
                  clear hor he
                  go_wp2_with fail
                  go_roundw
                  case rel => exact ⟨j + 1, by go_num, by omega, hq⟩
                  case measure => simp [intOf]; omega
            · have cb : wr.cell? ⟨g, bi, none⟩ = some (.string (at_ X bi)) := (hq.cell (by exact hgl)).trans (hc bi hbn)
              go_wp2_with fail
              refine (on hq (rbegins_b s (at_ X bi) true _ (by omega) HB.out)).mono ?_
              rintro e w' ⟨rfl, hq⟩
              go_wp2
              go_ret
              exact ⟨rfl, hnx.trans (hq.mono hnx.size)⟩

end Go.Proofs.Ytcalklfkihjipaa
