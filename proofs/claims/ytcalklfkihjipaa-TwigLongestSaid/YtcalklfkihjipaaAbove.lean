/-
  The walks of Above, the program's and the reference's: the least string above all that begin so.
-/
import Derived.Test.YtcalklfkihjipaaBase
import Derived.Laws.IdiomStrings
import Derived.WideShapes
namespace Go.Proofs.Ytcalklfkihjipaa
open Go.RowKit
set_option linter.unusedVariables false

def ofL (l : List UInt8) : ByteArray := ⟨l.toArray⟩

set_option maxHeartbeats 400000 in
/-- the reference's Above, at a last byte that is not 255 -/
theorem rabove_last (s r : ByteArray) (m cap : Nat) (C : Array Value) (w : World) (hm : (s.size : Int) - 1 = (m : Int)) (hlt : m < s.size) (hb : s.size ≤ 1000)
    (h255 : ((s[m].toNat : Nat) : Int) < 255)
    (hconv : (convert 9 34 (.string s)).run Try.prog w = .ok (.slice (some ⟨w.heap.size, 0, none⟩) s.size cap) (w.drew.alloc (.cells C 5 (C.size, C.size + 1))))
    (c0 : Value) (hc0 : (w.alloc (.cells C 5 (C.size, C.size + 1))).cell? ⟨w.heap.size, m, none⟩ = some c0) (hz0 : (w.alloc (.cells C 5 (C.size, C.size + 1))).frozen? ⟨w.heap.size, m, none⟩ = false)
    (hback : (convert 34 9 (.slice (some ⟨w.heap.size, 0, none⟩) s.size cap)).run Try.prog ((w.alloc (.cells C 5 (C.size, C.size + 1))).setCell ⟨w.heap.size, m, none⟩ (.int .u8 ((s[m].toNat : Nat) + 1))).drew = .ok (.string r) ((w.alloc (.cells C 5 (C.size, C.size + 1))).setCell ⟨w.heap.size, m, none⟩ (.int .u8 ((s[m].toNat : Nat) + 1))).drew) :
    Calls Try.prog 11 #[.string s] w fun e w' => e = .returned (.tuple #[.string r, .bool true]) ∧ w' = ((w.alloc (.cells C 5 (C.size, C.size + 1))).setCell ⟨w.heap.size, m, none⟩ (.int .u8 ((s[m].toNat : Nat) + 1))).drew := by
  have h0 : (((s[m].toNat : Nat) : Int) == 255) = false := by rw [beq_eq_false_iff_ne]; intro h; omega
  have h1 : ((s.size : Int) == 0) = false := beq_eq_false_iff_ne.2 (by omega)
  go_enter Try.func11, Try.ntmps11
  go_wp2
  go_ret2
  exact ⟨rfl, rfl⟩

/-- a string that is not empty: what is ahead of its last byte, and that -/
theorem list_snoc (s : ByteArray) (m : Nat) (hm : s.size = m + 1) (h : m < s.size) : s.data.toList = (s.extract 0 m).data.toList ++ [s[m]] := by
  rw [Lib.extract_data, List.drop_zero, Nat.sub_zero]
  have e : s.data.toList.take (m + 1) = s.data.toList := List.take_of_length_le (by rw [len_list]; omega)
  conv => lhs; rw [← e]
  rw [List.take_succ_eq_append_getElem (by rw [len_list]; exact h)]; rfl

theorem above_at (s : ByteArray) (m : Nat) (hm : s.size = m + 1) (h : m < s.size) :
    above s.data.toList = if s[m] = 255 then above (s.extract 0 m).data.toList else some ((s.extract 0 m).data.toList ++ [s[m] + 1]) := by
  rw [list_snoc s m hm h, above_snoc]

theorem below_refl (w : World) : Below w.heap.size w w := Below.refl _ _

set_option maxHeartbeats 400000 in
/-- the reference's Above, at the empty string -/
theorem rabove_empty (s : ByteArray) (w : World) (h : ((s.size : Int) == 0) = true) :
    Calls Try.prog 11 #[.string s] w fun e w' => e = .returned (.tuple #[.string ByteArray.empty, .bool false]) ∧ w' = w := by
  go_enter Try.func11, Try.ntmps11
  go_wp2
  go_ret2
  exact ⟨rfl, rfl⟩

set_option maxHeartbeats 400000 in
/-- the reference's Above, at a last byte 255: on with what is ahead of it -/
theorem rabove_on (s : ByteArray) (m : Nat) (w : World) (hm : (s.size : Int) - 1 = (m : Int)) (hlt : m < s.size) (hb : s.size ≤ 1000)
    (h255 : (((s[m].toNat : Nat) : Int) == 255) = true) (Q : Ending → World → Prop)
    (ih : Calls Try.prog 11 #[.string (s.extract 0 m)] w (fun e w' => (∃ r b, e = .returned (.tuple #[.string r, .bool b])) ∧ Q e w')) :
    Calls Try.prog 11 #[.string s] w Q := by
  have IH := Lib.hid ih
  clear ih
  have h1 : ((s.size : Int) == 0) = false := beq_eq_false_iff_ne.2 (by omega)
  go_enter Try.func11, Try.ntmps11
  go_wp2_with fail
  refine IH.out.mono ?_
  rintro e w' ⟨⟨r, b, rfl⟩, hq⟩
  go_wp2
  exact hq

def AboveIs (s : ByteArray) (w : World) (e : Ending) (w' : World) : Prop :=
  (match above s.data.toList with
    | none => e = .returned (.tuple #[.string ByteArray.empty, .bool false])
    | some u => e = .returned (.tuple #[.string (ofL u), .bool true])) ∧ Below w.heap.size w w'

theorem AboveIs.form {s : ByteArray} {w w' : World} {e : Ending} (h : AboveIs s w e w') : ∃ r b, e = .returned (.tuple #[.string r, .bool b]) := by
  obtain ⟨h, _⟩ := h
  cases ha : above s.data.toList with
  | none => rw [ha] at h; exact ⟨_, _, h⟩
  | some u => rw [ha] at h; exact ⟨_, _, h⟩

/-- the reference's Above, whatever the string -/
theorem rabove_any (n : Nat) : ∀ (s : ByteArray) (w : World), s.size = n → s.size ≤ 1000 → Calls Try.prog 11 #[.string s] w (AboveIs s w) := by
  induction n with
  | zero =>
    intro s w hn hb
    refine (rabove_empty s w (by rw [hn]; rfl)).mono fun e w' ⟨he, hw⟩ => ⟨?_, hw ▸ below_refl w⟩
    have : s.data.toList = [] := by rw [← List.length_eq_zero_iff, len_list]; exact hn
    rw [this]; exact he
  | succ m ih =>
    intro s w hn hb
    have hlt : m < s.size := by omega
    have hat := above_at s m hn hlt
    by_cases hc : s[m] = 255
    · rw [if_pos hc] at hat
      refine rabove_on s m w (by omega) hlt hb (by rw [hc]; rfl) _ ?_
      refine (ih (s.extract 0 m) w (by rw [ByteArray.size_extract]; omega) (by rw [ByteArray.size_extract]; omega)).mono fun e w' h => ⟨h.form, ?_⟩
      unfold AboveIs at h ⊢
      rw [hat]; exact h
    · rw [if_neg hc] at hat
      have hv : s[m].toNat < 255 := by
        have h1 := s[m].toNat_lt
        have h2 : s[m].toNat ≠ (255 : UInt8).toNat := fun g => hc (UInt8.toNat_inj.1 g)
        have h3 : (255 : UInt8).toNat = 255 := rfl
        omega
      have hconv := run_bytes_of_string (P := Try.prog) w 9 34 5 s Try.underlying9 Try.underlying34 Try.underlying5
      generalize hC : bytesRow s (grownCap w s.size 0 5) = C at hconv
      generalize grownCap w s.size 0 5 = cap at hconv hC
      have hsC : s.size ≤ C.size := by rw [← hC]; unfold bytesRow; simp
      have hcell : ∀ j (hj : j < s.size), C[j]? = some (.int .u8 ((s[j].toNat : Nat) : Int)) := fun j hj => by rw [← hC]; exact bytesRow_at s cap j hj
      have hc0 : (w.alloc (.cells C 5 (C.size, C.size + 1))).cell? ⟨w.heap.size, m, none⟩ = some (.int .u8 ((s[m].toNat : Nat) : Int)) := by
        rw [World.cell?_alloc_mark, hcell m hlt]
      have hz0 : (w.alloc (.cells C 5 (C.size, C.size + 1))).frozen? ⟨w.heap.size, m, none⟩ = false := by
        rw [World.frozen?_alloc_mark]; simp; omega
      have hL : ((s.extract 0 m).data.toList ++ [s[m] + 1]).length = s.size := by
        rw [List.length_append, len_list, ByteArray.size_extract]; simp; omega
      have hsucc : ((s[m] + 1).toNat : Int) = (s[m].toNat : Int) + 1 := by
        have := UInt8.toNat_add s[m] 1
        have h4 : (1 : UInt8).toNat = 1 := rfl
        omega
      have hback := run_convert_bytes_back (P := Try.prog) ((w.alloc (.cells C 5 (C.size, C.size + 1))).setCell ⟨w.heap.size, m, none⟩ (.int .u8 (((s[m].toNat : Nat) : Int) + 1))).drew 34 9 5 ⟨w.heap.size, 0, none⟩ cap ((s.extract 0 m).data.toList ++ [s[m] + 1]) Try.underlying34 Try.underlying5 Try.underlying9 (fun j hj => by
        show ((w.alloc (.cells C 5 (C.size, C.size + 1))).setCell ⟨w.heap.size, m, none⟩ (.int .u8 (((s[m].toNat : Nat) : Int) + 1))).cell? ((⟨w.heap.size, 0, none⟩ : Addr).add j) = _
        rw [WideShapes.add_plain, Nat.zero_add]
        have hlen : (s.extract 0 m).data.toList.length = m := by rw [len_list, ByteArray.size_extract]; omega
        by_cases hjm : j = m
        · subst hjm
          rw [World.cell?_setCell_same _ _ _ hc0, List.getElem_append_right (by omega)]
          simp; omega
        · have hj' : j < m := by omega
          rw [World.cell?_setCell_other _ _ _ _ (by intro hh; injection hh with _ h2; omega), World.cell?_alloc_mark, hcell j (by omega), List.getElem_append_left (by omega)]
          have : (s.extract 0 m).data.toList[j]? = some s[j] := by
            rw [Lib.extract_data, List.drop_zero, Nat.sub_zero, List.getElem?_take_of_lt hj', at_list s j (by omega)]
          rw [List.getElem?_eq_getElem (by omega)] at this
          simp only [Option.some.injEq] at this
          rw [this])
      rw [hL] at hback
      refine (rabove_last s _ m cap C w (by omega) hlt hb (by omega) hconv _ hc0 hz0 hback).mono fun e w' ⟨he, hw⟩ => ?_
      unfold AboveIs
      rw [hat, hw]
      exact ⟨he, (((Below.refl _ _).alloc (Nat.le_refl _) _).setCell (Nat.le_refl _) _).drew⟩

theorem above_take (s : ByteArray) (m : Nat) (h : m < s.size) :
    above (s.data.toList.take (m + 1)) = if ((s[m].toNat : Nat) : Int) == 255 then above (s.data.toList.take m) else some (s.data.toList.take m ++ [s[m] + 1]) := by
  rw [List.take_succ_eq_append_getElem (by rw [len_list]; exact h), above_snoc]
  have e : s.data.toList[m]'(by rw [len_list]; exact h) = s[m] := rfl
  rw [e]
  by_cases hc : s[m] = 255
  · rw [if_pos hc, hc]; rfl
  · rw [if_neg hc, if_neg]
    intro hh
    simp only [beq_iff_eq] at hh
    exact hc (UInt8.toNat_inj.1 (by have h3 : (255 : UInt8).toNat = 255 := rfl; omega))

/-- string([]byte{c + 1}), of a new block -/
theorem back_one (w : World) (c : UInt8) (h : c.toNat < 255) :
    (convert 34 9 (.slice (some ⟨w.heap.size, 0, none⟩) 1 1)).run Try.prog (w.alloc (.cells #[.int .u8 ((c.toNat : Int) + 1)] 5)).drew = .ok (.string (ofL [c + 1])) (w.alloc (.cells #[.int .u8 ((c.toNat : Int) + 1)] 5)).drew := by
  refine run_convert_bytes_back (P := Try.prog) _ 34 9 5 ⟨w.heap.size, 0, none⟩ 1 [c + 1] Try.underlying34 Try.underlying5 Try.underlying9 (fun j hj => ?_)
  obtain rfl : j = 0 := by simpa using hj
  rw [WideShapes.add_plain, Nat.zero_add]
  show (w.alloc (.cells #[.int .u8 ((c.toNat : Int) + 1)] 5)).cell? _ = _
  rw [World.cell?_alloc_mark]
  have hsucc : ((c + 1).toNat : Int) = (c.toNat : Int) + 1 := by
    have := UInt8.toNat_add c 1
    have h4 : (1 : UInt8).toNat = 1 := rfl
    omega
  simp only [List.getElem_cons_zero, hsucc]; rfl

set_option maxHeartbeats 400000 in
/-- twig.Above, its loop: to the last byte that is not 255 -/
theorem tabove_any (s : ByteArray) (w : World) (hs : s.size ≤ 1000) :
    Calls Try.prog 10 #[.string s] w (AboveIs s w) := by
  go_enter Try.func10, Try.ntmps10
  go_wp2
  go_loop [4] (fun i => ∃ k : Nat, i = .int .i64 k ∧ k ≤ s.size ∧ Hid (above s.data.toList = above (s.data.toList.take k))) (fun i => (intOf i).toNat)
  case atStart => exact ⟨s.size, rfl, by omega, by rw [List.take_of_length_le (by rw [len_list]; exact Nat.le_refl _)]; exact Lib.hid rfl⟩
  case round =>
    obtain ⟨k, rfl, hk, HR⟩ := hrel
    by_cases hk0 : 0 < k
    · obtain ⟨m, rfl⟩ : ∃ m, k = m + 1 := ⟨k - 1, by omega⟩
      have hlt : m < s.size := by omega
      have hz : ((m : Int) + 1 == 0) = false := beq_eq_false_iff_ne.2 (by omega)
      cases h255 : (((s[m].toNat : Nat) : Int) == 255)
      · have HA : Hid (above s.data.toList = some (s.data.toList.take m ++ [s[m] + 1])) := by
          rw [HR.out, above_take s m hlt, h255]; exact Lib.hid rfl
        clear HR
        have hv : ((s[m].toNat : Nat) : Int) < 255 := by
          have h1 := s[m].toNat_lt
          rw [beq_eq_false_iff_ne] at h255; omega
        have hv0 : (0 : Int) ≤ ((s[m].toNat : Nat) : Int) := by omega
        have hback := back_one w s[m] (by omega)
        have hcat : ∀ W : World, (Op.stringOp .add (s.extract 0 m) (ofL [s[m] + 1])).run Try.prog W = .ok (.string (s.extract 0 m ++ ofL [s[m] + 1])) W := fun W =>
          run_string_add_sum W _ _ (by rw [ByteArray.size_extract]; simp only [ofL, ByteArray.size]; simp; omega)
        go_wp2
        go_region
        go_wp2
        go_ret2
        refine ⟨?_, ((Below.refl _ _).alloc (Nat.le_refl _) _).drew⟩
        rw [HA.out]
        have e : s.extract 0 m ++ ofL [s[m] + 1] = ofL (s.data.toList.take m ++ [s[m] + 1]) := by
          unfold ofL; rw [← ByteArray.mk_append_mk, Lib.extract_eq, List.drop_zero, Nat.sub_zero]
        show Ending.returned (Value.tuple #[.string (s.extract 0 m ++ ofL [s[m] + 1]), .bool true]) = Ending.returned (Value.tuple #[.string (ofL (s.data.toList.take m ++ [s[m] + 1])), .bool true])
        rw [e]
      · have HA : Hid (above s.data.toList = above (s.data.toList.take m)) := by
          rw [HR.out, above_take s m hlt, h255]; exact Lib.hid rfl
        clear HR
        go_wp2
        go_round
        case rel => exact ⟨m, rfl, by omega, HA⟩
        case measure => simp [intOf]
    · have hk' : k = 0 := by omega
      subst hk'
      have HA : Hid (above s.data.toList = none) := by
        rw [HR.out, List.take_zero]; exact Lib.hid rfl
      go_wp2
      go_ret2
      exact ⟨by rw [HA.out]; rfl, below_refl w⟩

end Go.Proofs.Ytcalklfkihjipaa
