/-
  The pool's blocks, and the walks of its functions, a channel in one goroutine.
-/
import Derived.Test.YtppakcijcjgoiaaRows
import Derived.WalkKit
import Derived.WalkSpells
import Derived.WalkLawsBesides
import Derived.BigQuiet
import Derived.Lib.Hide
import Derived.Conc.LoneCalls
import Derived.Conc.LoneSelect
import Derived.Conc.LoneSelectN
namespace Go.Proofs.Ytppakcijcjgoiaa
open Go.RowKit Go.Conc
set_option linter.unusedVariables false

def ptr (b : Nat) : Value := .pointer (some ⟨b, 0, none⟩)
def num (n : Nat) : Value := .int .i64 n
def tokB (bp id : Nat) (live : Bool) : Obj := .cells #[.pointer (some ⟨bp, 0, none⟩), .int .i64 id, .bool live] 53
def poolB (c : Nat) : Obj := .cells #[.chan (some c)] 51
def nums (l : List Nat) : Array Value := (l.map num).toArray
def chanB (k : Nat) (ids : List Nat) (s r : Nat) : Obj := .chan k (nums ids) false s r false

theorem nums_size (l : List Nat) : (nums l).size = l.length := by simp [nums]
theorem nums_push (l : List Nat) (n : Nat) : (nums l).push (.int .i64 n) = nums (l ++ [n]) := by simp [nums, num]
theorem nums_head (n : Nat) (l : List Nat) : (nums (n :: l)).getD 0 undef = .int .i64 n := by simp [nums, num]
theorem nums_tail (n : Nat) (l : List Nat) : (nums (n :: l)).extract 1 (nums (n :: l)).size = nums l := by
  simp [nums, List.extract_eq_take_drop]
  rw [List.take_of_length_le (by simp)]

theorem cell_of {w : World} {b : Nat} {cs : Array Value} {t : TypeId} {v : Value} {i : Nat} (h : w.heap[b]? = some (.cells cs t)) (hv : cs[i]? = some v) : w.cell? ⟨b, i, none⟩ = some v := by
  simp [World.cell?, h, hv]
theorem frozen_of {w : World} {b : Nat} {cs : Array Value} {t : TypeId} {i : Nat} (h : w.heap[b]? = some (.cells cs t)) : w.frozen? ⟨b, i, none⟩ = false := by
  simp [World.frozen?, h]

/-- all that stood before stands, but the blocks of S -/
structure Ch (S : List Nat) (w w' : World) : Prop where
  os : w'.os = w.os
  tape : w'.tape = w.tape
  output : w'.output = w.output
  size : w.heap.size ≤ w'.heap.size
  block : ∀ k, k < w.heap.size → k ∉ S → w'.heap[k]? = w.heap[k]?

theorem Ch.refl (S : List Nat) (w : World) : Ch S w w := ⟨rfl, rfl, rfl, Nat.le_refl _, fun _ _ _ => rfl⟩
theorem Ch.trans {S : List Nat} {a b c : World} (h : Ch S a b) (k : Ch S b c) : Ch S a c :=
  ⟨k.os.trans h.os, k.tape.trans h.tape, k.output.trans h.output, Nat.le_trans h.size k.size, fun i hi hn => (k.block i (Nat.lt_of_lt_of_le hi h.size) hn).trans (h.block i hi hn)⟩
theorem Ch.mono {S T : List Nat} {a b : World} (h : Ch S a b) (hs : ∀ x ∈ S, x ∈ T) : Ch T a b := ⟨h.os, h.tape, h.output, h.size, fun i hi hn => h.block i hi fun hx => hn (hs i hx)⟩
theorem Ch.drewN {S : List Nat} {a b : World} (h : Ch S a b) (n : Nat) : Ch S a (b.drewN n) := ⟨h.os, h.tape, h.output, h.size, h.block⟩
theorem Ch.setChan {S : List Nat} {a b : World} (h : Ch S a b) {c : Nat} (hc : c ∈ S) (cap : Nat) (buf : Array Value) (cl : Bool) (s r : Nat) (tm : Bool) : Ch S a (b.setChan c cap buf cl s r tm) :=
  h.trans ⟨rfl, rfl, rfl, by simp [World.setChan], fun k hk hn => by
    have e : c ≠ k := fun e => hn (by rw [← e]; exact hc)
    simp only [World.setChan]; rw [Array.getElem?_setIfInBounds_ne e]⟩
theorem Ch.alloc {S : List Nat} {a b : World} (h : Ch S a b) (o : Obj) : Ch S a (b.alloc o) :=
  h.trans ⟨rfl, rfl, rfl, by simp, fun k hk hn => Below.heap_alloc _ _ _ hk⟩
theorem Ch.setCell {S : List Nat} {a b : World} (h : Ch S a b) {p : Addr} (hp : p.block ∈ S) (u : Value) : Ch S a (b.setCell p u) :=
  h.trans ⟨rfl, rfl, rfl, by simp [World.setCell], fun k hk hn => Below.heap_setCell _ _ _ _ (fun e => hn (e ▸ hp))⟩
/-- to the law's first world -/
theorem Ch.below {S : List Nat} {B : Nat} {a b w : World} (h : Ch S a b) (hb : Below B w a) (hB : B ≤ a.heap.size) (hS : ∀ x ∈ S, B ≤ x) : Below B w b :=
  hb.trans ⟨h.os, h.tape, h.output, h.size, fun k hk => h.block k (by omega) fun hx => by have := hS k hx; omega⟩
theorem Ch.some {S : List Nat} {a b : World} (h : Ch S a b) {k : Nat} {o : Obj} (hk : a.heap[k]? = some o) (hn : k ∉ S) : b.heap[k]? = some o := by
  rw [h.block k (by have := (Array.getElem?_eq_some_iff.1 hk); exact this.1) hn, hk]
theorem lt_of_some {a : World} {k : Nat} {o : Obj} (hk : a.heap[k]? = some o) : k < a.heap.size := (Array.getElem?_eq_some_iff.1 hk).1
theorem heap_new (w : World) (o : Obj) : (w.alloc o).heap[w.heap.size]? = some o := heap_alloc_new w o
theorem ne_of_objs {w : World} {i j : Nat} {o o' : Obj} (h : w.heap[i]? = some o) (h' : w.heap[j]? = some o') (hne : o ≠ o') : i ≠ j := by
  rintro rfl; rw [h] at h'; exact hne (Option.some.inj h')

/-! ### what needs no channel's turn -/
theorem live_nil (w : World) : Calls Try.prog 14 #[.pointer none] w fun e w' => e = .returned (.bool false) ∧ w' = w := by
  go_enter Try.func14, Try.ntmps14
  go_wp2
  all_goals go_ret
  all_goals exact ⟨rfl, rfl⟩
theorem live_any (bt bp id : Nat) (live : Bool) (w : World) (h : w.heap[bt]? = some (tokB bp id live)) : Calls Try.prog 14 #[.pointer (some ⟨bt, 0, none⟩)] w fun e w' => e = .returned (.bool live) ∧ w' = w := by
  have h2 := cell_of (i := 2) h rfl
  go_enter Try.func14, Try.ntmps14
  go_wp2
  all_goals go_ret
  all_goals exact ⟨rfl, rfl⟩
theorem id_nil (w : World) : Calls Try.prog 11 #[.pointer none] w fun e w' => e = .returned (.int .i64 0) ∧ w' = w := by
  go_enter Try.func11, Try.ntmps11
  go_wp2
  all_goals go_ret
  all_goals exact ⟨rfl, rfl⟩
theorem id_any (bt bp id : Nat) (live : Bool) (w : World) (h : w.heap[bt]? = some (tokB bp id live)) : Calls Try.prog 11 #[.pointer (some ⟨bt, 0, none⟩)] w fun e w' => e = .returned (.int .i64 id) ∧ w' = w := by
  have h1 := cell_of (i := 1) h rfl
  go_enter Try.func11, Try.ntmps11
  go_wp2
  all_goals go_ret
  all_goals exact ⟨rfl, rfl⟩
theorem room_nil (w : World) : Calls Try.prog 18 #[.pointer none] w fun e w' => e = .returned (.int .i64 0) ∧ w' = w := by
  go_enter Try.func18, Try.ntmps18
  go_wp2
  all_goals go_ret
  all_goals exact ⟨rfl, rfl⟩
theorem out_nil (w : World) : Calls Try.prog 13 #[.pointer none] w fun e w' => e = .returned (.int .i64 0) ∧ w' = w := by
  go_enter Try.func13, Try.ntmps13
  go_wp2
  all_goals go_ret
  all_goals exact ⟨rfl, rfl⟩
theorem room_any (bp c k s r : Nat) (ids : List Nat) (w : World) (h : w.heap[bp]? = some (poolB c)) (hc : w.heap[c]? = some (chanB k ids s r)) :
    Calls Try.prog 18 #[.pointer (some ⟨bp, 0, none⟩)] w fun e w' => e = .returned (.int .i64 k) ∧ w' = w := by
  have h0 := cell_of (i := 0) h rfl
  have hcap := fun ty => run_cap_chan (P := Try.prog) (w := w) 49 ty Try.underlying49 hc
  go_enter Try.func18, Try.ntmps18
  go_wp2
  all_goals go_ret
  all_goals exact ⟨rfl, rfl⟩
set_option maxRecDepth 100000 in
theorem out_any (bp c k s r : Nat) (ids : List Nat) (w : World) (h : w.heap[bp]? = some (poolB c)) (hc : w.heap[c]? = some (chanB k ids s r)) (hk : k ≤ 4096) (hl : ids.length ≤ k) :
    Calls Try.prog 13 #[.pointer (some ⟨bp, 0, none⟩)] w fun e w' => e = .returned (.int .i64 ((k : Int) - ids.length)) ∧ ∃ n, w' = w.drewN n := by
  have h0 := cell_of (i := 0) h rfl
  have hcap := fun (n : Nat) ty => run_cap_chan (P := Try.prog) (w := w.drewN n) 49 ty Try.underlying49 hc
  have hlen := fun (n : Nat) ty => run_len_chan (P := Try.prog) (w := w.drewN n) 49 ty Try.underlying49 hc
  rw [nums_size] at hlen
  go_enter Try.func13, Try.ntmps13
  go_wp2
  go_quiet (fail)
  go_wp2
  all_goals go_ret
  all_goals exact ⟨rfl, _, rfl⟩
end Go.Proofs.Ytppakcijcjgoiaa
