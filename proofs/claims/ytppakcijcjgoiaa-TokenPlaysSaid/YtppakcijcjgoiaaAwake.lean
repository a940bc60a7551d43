/-
  The pool's functions by its row, and the document's example.
-/
import Derived.Test.YtppakcijcjgoiaaNew
import Derived.Test.YtppakcijcjgoiaaTake
import Derived.Test.YtppakcijcjgoiaaEnd
namespace Go.Proofs.Ytppakcijcjgoiaa
open Go.RowKit Go.Conc
set_option linter.unusedVariables false

/-- a pool of k, its row ids -/
def Row (bp c k : Nat) (ids : List Nat) (w : World) : Prop := w.heap[bp]? = some (poolB c) ∧ ∃ s r, w.heap[c]? = some (chanB k ids s r)
/-- a token's block -/
def Tok (bt bp id : Nat) (live : Bool) (w : World) : Prop := w.heap[bt]? = some (tokB bp id live)

theorem Row.next {bp c k : Nat} {ids : List Nat} {w w' : World} {S : List Nat} (h : Row bp c k ids w) (hc : Ch S w w') (h1 : bp ∉ S) (h2 : c ∉ S) : Row bp c k ids w' :=
  let ⟨hp, s, r, hh⟩ := h; ⟨hc.some hp h1, s, r, hc.some hh h2⟩
theorem Tok.next {bt bp id : Nat} {live : Bool} {w w' : World} {S : List Nat} (h : Tok bt bp id live w) (hc : Ch S w w') (h1 : bt ∉ S) : Tok bt bp id live w' := hc.some h h1
theorem Row.lt {bp c k : Nat} {ids : List Nat} {w : World} (h : Row bp c k ids w) : bp < w.heap.size ∧ c < w.heap.size :=
  let ⟨hp, s, r, hh⟩ := h; ⟨lt_of_some hp, lt_of_some hh⟩
theorem Tok.lt {bt bp id : Nat} {live : Bool} {w : World} (h : Tok bt bp id live w) : bt < w.heap.size := lt_of_some h
theorem tok_row {bt bq id : Nat} {live : Bool} {bp c k : Nat} {ids : List Nat} {w : World} (h : Tok bt bq id live w) (hr : Row bp c k ids w) : bt ≠ c ∧ bt ≠ bp :=
  let ⟨hp, s, r, hh⟩ := hr; ⟨ne_of_objs h hh (by unfold chanB tokB; simp), ne_of_objs h hp (by unfold poolB tokB; simp)⟩
theorem row_row {bp c k bq d m : Nat} {ids jds : List Nat} {w : World} (h : Row bp c k ids w) (hr : Row bq d m jds w) : bp ≠ d :=
  let ⟨hp, _⟩ := h; let ⟨_, s, r, hh⟩ := hr; ne_of_objs hp hh (by unfold chanB poolB; simp)
theorem Row.of_new {n : Nat} {w w' : World} (h : NewS w n n w') : Row (w.heap.size + 1) w.heap.size n (List.range' 1 n) w' := ⟨h.2.2.2, _, _, h.2.2.1⟩

theorem take_row (bp c k i : Nat) (ids : List Nat) (w : World) (h : Row bp c k (i :: ids) w) :
    Calls Try.prog 10 #[.pointer (some ⟨bp, 0, none⟩)] w fun e w' => e = .returned (.tuple #[.pointer (some ⟨w.heap.size, 0, none⟩), .int .i64 0]) ∧
      w'.heap.size = w.heap.size + 1 ∧ Ch [c] w w' ∧ Row bp c k ids w' ∧ Tok w.heap.size bp i true w' := by
  obtain ⟨hp, s, r, hc⟩ := h
  refine (take_some bp c k s r i ids w hp hc).mono ?_
  rintro e w' ⟨rfl, h1, h2, h3, h4⟩
  exact ⟨rfl, h1, h2, ⟨h2.some hp (by simpa using (ne_of_objs hp hc (by unfold chanB poolB; simp))), s, _, h3⟩, h4⟩
theorem take_empty (bp c k : Nat) (w : World) (h : Row bp c k [] w) :
    Calls Try.prog 10 #[.pointer (some ⟨bp, 0, none⟩)] w fun e w' => e = .returned (.tuple #[.pointer none, .int .i64 6]) ∧ w = w' := by
  obtain ⟨hp, s, r, hc⟩ := h
  exact Calls.mono (take_none bp c k s r w hp hc) fun _ _ ⟨a, b⟩ => ⟨a, b.symm⟩
theorem end_row (bp c k bt i : Nat) (ids : List Nat) (w : World) (h : Row bp c k ids w) (ht : Tok bt bp i true w) (hk : ids.length < k) :
    Calls Try.prog 12 #[.pointer (some ⟨bp, 0, none⟩), .pointer (some ⟨bt, 0, none⟩)] w fun e w' => e = .returned (.int .i64 0) ∧
      w'.heap.size = w.heap.size ∧ Ch [c, bt] w w' ∧ Row bp c k (ids ++ [i]) w' ∧ Tok bt bp i false w' := by
  have hn := tok_row ht h
  obtain ⟨hp, s, r, hc⟩ := h
  refine (end_ok bp c k s r bt i ids w hp hc ht hk).mono ?_
  rintro e w' ⟨rfl, h1, h2, h3, h4⟩
  exact ⟨rfl, h1, h2, ⟨h2.some hp (by simp; exact ⟨ne_of_objs hp hc (by unfold chanB poolB; simp), fun e => hn.2 e.symm⟩), _, r, h3⟩, h4⟩
theorem end_again (bp bq bt id : Nat) (w : World) (h : Tok bt bq id false w) :
    Calls Try.prog 12 #[.pointer (some ⟨bp, 0, none⟩), .pointer (some ⟨bt, 0, none⟩)] w fun e w' => e = .returned (.int .i64 4) ∧ w = w' :=
  Calls.mono (end_dead bp bq bt id w h) fun _ _ ⟨a, b⟩ => ⟨a, b.symm⟩
theorem end_far (bp c k bq d m bt id : Nat) (ids jds : List Nat) (w : World) (h : Tok bt bq id true w) (hp : Row bp c k ids w) (hq : Row bq d m jds w) (hn : bq ≠ bp) :
    Calls Try.prog 12 #[.pointer (some ⟨bp, 0, none⟩), .pointer (some ⟨bt, 0, none⟩)] w fun e w' => e = .returned (.int .i64 4) ∧ w = w' :=
  Calls.mono (end_other bp bq bt id c d w h hp.1 hq.1 hn) fun _ _ ⟨a, b⟩ => ⟨a, b.symm⟩
theorem live_row (bt bp id : Nat) (live : Bool) (w : World) (h : Tok bt bp id live w) : Calls Try.prog 14 #[.pointer (some ⟨bt, 0, none⟩)] w fun e w' => e = .returned (.bool live) ∧ w = w' :=
  Calls.mono (live_any bt bp id live w h) fun _ _ ⟨a, b⟩ => ⟨a, b.symm⟩
theorem id_row (bt bp id : Nat) (live : Bool) (w : World) (h : Tok bt bp id live w) : Calls Try.prog 11 #[.pointer (some ⟨bt, 0, none⟩)] w fun e w' => e = .returned (.int .i64 id) ∧ w = w' :=
  Calls.mono (id_any bt bp id live w h) fun _ _ ⟨a, b⟩ => ⟨a, b.symm⟩
theorem room_row (bp c k : Nat) (ids : List Nat) (w : World) (h : Row bp c k ids w) : Calls Try.prog 18 #[.pointer (some ⟨bp, 0, none⟩)] w fun e w' => e = .returned (.int .i64 k) ∧ w = w' := by
  obtain ⟨hp, s, r, hc⟩ := h
  exact Calls.mono (room_any bp c k s r ids w hp hc) fun _ _ ⟨a, b⟩ => ⟨a, b.symm⟩
theorem out_row (bp c k : Nat) (ids : List Nat) (w : World) (h : Row bp c k ids w) (hk : k ≤ 4096) (hl : ids.length ≤ k) :
    Calls Try.prog 13 #[.pointer (some ⟨bp, 0, none⟩)] w fun e w' => e = .returned (.int .i64 ((k - ids.length : Nat) : Int)) ∧ ∃ n, w' = w.drewN n := by
  obtain ⟨hp, s, r, hc⟩ := h
  refine (out_any bp c k s r ids w hp hc hk hl).mono ?_
  rintro e w' ⟨rfl, hn⟩
  exact ⟨by rw [Int.ofNat_sub hl], hn⟩
theorem new_row (n : Nat) (w : World) (h1 : 1 ≤ n) (h2 : n ≤ 4096) :
    Calls Try.prog 9 #[.int .i64 n] w fun e w' => e = .returned (.tuple #[.pointer (some ⟨w.heap.size + 1, 0, none⟩), .int .i64 0]) ∧
      w'.heap.size = w.heap.size + 2 ∧ Ch [] w w' ∧ Row (w.heap.size + 1) w.heap.size n (List.range' 1 n) w' := by
  refine (new_ok n w h1 h2).mono ?_
  rintro e w' ⟨rfl, hs⟩
  exact ⟨rfl, hs.2.1, ⟨hs.1.os, hs.1.tape, hs.1.output, hs.1.size, fun k hk _ => hs.1.block k hk⟩, .of_new hs⟩

theorem Ch.toB {S : List Nat} {w w1 : World} (h : Ch S w w1) (hS : ∀ x ∈ S, w.heap.size ≤ x) : Below w.heap.size w w1 := h.below (Below.refl _ _) (Nat.le_refl _) hS
theorem Ch.ofB {w w1 : World} (h : Below w.heap.size w w1) : Ch [] w w1 := ⟨h.os, h.tape, h.output, h.size, fun k hk _ => h.block k hk⟩

set_option maxRecDepth 100000 in
set_option maxHeartbeats 1000000 in
theorem awake_any (w : World) : Calls Try.prog 8 #[] w fun e w' => e = .returned (.bool true) ∧ Below w.heap.size w w' := by
  go_enter Try.func8, Try.ntmps8
  go_wp2_with fail
  refine (new_row 2 _ (by decide) (by decide)).mono ?_
  rintro e w1 ⟨rfl, hz1, hc1, hr1⟩
  have hx1 : Row (w.heap.size + 1) w.heap.size 2 [1, 2] w1 := hr1
  have HB1 := Lib.hid (hc1.toB (by simp))
  have HZ1 := Lib.hid hz1
  clear hr1 hc1 hz1
  go_wp2_with fail
  refine (take_row _ _ _ _ _ _ hx1).mono ?_
  rintro e w2 ⟨rfl, hz2, hc2, hx2, ht2⟩
  have HB2 := Lib.hid (hc2.below HB1.out (by have := HZ1.out; omega) (by simp))
  have HZ2 := Lib.hid (show w2.heap.size = w.heap.size + 3 by rw [hz2, HZ1.out])
  rw [HZ1.out] at ht2 ⊢
  clear hz2 hc2 hx1 HB1 HZ1
  go_wp2_with fail
  refine (take_row _ _ _ _ _ _ hx2).mono ?_
  rintro e w3 ⟨rfl, hz3, hc3, hx3, ht3⟩
  have HB3 := Lib.hid (hc3.below HB2.out (by have := HZ2.out; omega) (by simp))
  have hu3 := ht2.next hc3 (by simp)
  have HZ3 := Lib.hid (show w3.heap.size = w.heap.size + 4 by rw [hz3, HZ2.out])
  rw [HZ2.out] at ht3 ⊢
  clear hz3 hc3 hx2 HB2 HZ2 ht2
  go_wp2_with fail
  refine (id_row _ _ _ _ _ hu3).mono ?_
  rintro e w' ⟨rfl, rfl⟩
  go_wp2_with fail
  refine (id_row _ _ _ _ _ ht3).mono ?_
  rintro e w' ⟨rfl, rfl⟩
  go_wp2_with fail
  refine (end_row _ _ _ _ _ _ _ hx3 hu3 (by simp)).mono ?_
  rintro e w4 ⟨rfl, hz4, hc4, hx4, ht4⟩
  have HB4 := Lib.hid (hc4.below HB3.out (by have := HZ3.out; omega) (by simp))
  have hu4 := ht3.next hc4 (by simp)
  clear hz4 hc4 hx3 HB3 HZ3 ht3 hu3
  go_wp2_with fail
  refine (live_row _ _ _ _ _ ht4).mono ?_
  rintro e w' ⟨rfl, rfl⟩
  go_wp2_with fail
  refine (live_row _ _ _ _ _ hu4).mono ?_
  rintro e w' ⟨rfl, rfl⟩
  go_wp2_with fail
  all_goals go_ret
  all_goals exact ⟨rfl, HB4.out⟩
end Go.Proofs.Ytppakcijcjgoiaa
