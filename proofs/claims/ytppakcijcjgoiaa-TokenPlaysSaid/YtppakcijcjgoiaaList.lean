/-
  A list of tokens: a slice of the law's own, and the tokens' blocks.
-/
import Derived.Test.YtppakcijcjgoiaaAwake
import Derived.Laws.AppendOwn
import Derived.Laws.OwnMore
namespace Go.Proofs.Ytppakcijcjgoiaa
open Go.RowKit Go.Conc
set_option linter.unusedVariables false

structure Tk where
  bt : Nat
  id : Nat
  live : Bool
def Tk.ptr (t : Tk) : Value := .pointer (some ⟨t.bt, 0, none⟩)

theorem Try.info28 : (Try.prog.info? 28).map (fun i => (i.zero, i.size, i.bytes)) = some (some (.pointer none), 1, 8) := by kernel_rfl

theorem chOf {w w' : World} {row : Option Nat} (h : w.grownBy w' row) : Ch row.toList w w' :=
  ⟨h.os, h.tape, h.output, h.size, fun k hk hn => h.block k hk (fun e => hn (by rw [← e]; simp))⟩
theorem grownOf {S : List Nat} {w w' : World} (h : Ch S w w') (row : Option Nat) (hr : ∀ x ∈ S, some x = row) : w.grownBy w' row :=
  ⟨h.os, h.tape, h.output, h.size, fun k hk hn => h.block k hk (fun hx => hn (hr k hx))⟩

/-- the slice v holds the tokens ts; each is a pool's -/
structure TL (B bp : Nat) (v : Value) (ts : List Tk) (w : World) : Prop where
  own : w.ownsRow B 28 1 v ts.length (ts.map Tk.ptr)
  tok : ∀ t ∈ ts, B ≤ t.bt ∧ Tok t.bt bp t.id t.live w
  apart : (ts.map Tk.bt).Nodup

theorem TL.nil (B bp : Nat) (w : World) : TL B bp (.slice none 0 0) [] w := ⟨World.ownsRow_nil _ _ _ _, by simp, by simp⟩
theorem own_block {B n : Nat} {v : Value} {xs : List Value} {w : World} (h : w.ownsRow B 28 1 v n xs) {g : Nat} (hg : v.ownBlock = some g) : ∃ cur, w.heap[g]? = some (.cells cur 28) := by
  rcases h.2 with ⟨rfl, _⟩ | ⟨g', cap, cur, rfl, _, hgg, _⟩
  · simp [Value.ownBlock] at hg
  · simp [Value.ownBlock] at hg
    subst hg; exact ⟨cur, hgg⟩
theorem own_ch {B n : Nat} {v : Value} {xs : List Value} {w w' : World} {S : List Nat} (h : w.ownsRow B 28 1 v n xs) (hc : Ch S w w') (hS : ∀ g, v.ownBlock = some g → g ∉ S) : w'.ownsRow B 28 1 v n xs := by
  refine ⟨h.1, ?_⟩
  rcases h.2 with hn | ⟨g, cap, cur, rfl, hb, hgg, rest⟩
  · exact .inl hn
  · exact .inr ⟨g, cap, cur, rfl, hb, hc.some hgg (hS g rfl), rest⟩
theorem row_own {B n bp c k : Nat} {ids : List Nat} {v : Value} {xs : List Value} {w : World} (h : w.ownsRow B 28 1 v n xs) (hr : Row bp c k ids w) {g : Nat} (hg : v.ownBlock = some g) : g ≠ bp ∧ g ≠ c := by
  obtain ⟨cur, hcur⟩ := own_block h hg
  obtain ⟨hp, s, r, hh⟩ := hr
  exact ⟨ne_of_objs hcur hp (by unfold poolB; simp), ne_of_objs hcur hh (by unfold chanB; simp)⟩
theorem tok_own {B n bt bp id : Nat} {live : Bool} {v : Value} {xs : List Value} {w : World} (h : w.ownsRow B 28 1 v n xs) (ht : Tok bt bp id live w) {g : Nat} (hg : v.ownBlock = some g) : g ≠ bt := by
  obtain ⟨cur, hcur⟩ := own_block h hg
  exact ne_of_objs hcur ht (by unfold tokB; simp)

/-- another's turn -/
theorem TL.next {B bp : Nat} {v : Value} {ts : List Tk} {w w' : World} {S : List Nat} (h : TL B bp v ts w) (hc : Ch S w w') (h1 : ∀ g, v.ownBlock = some g → g ∉ S) (h2 : ∀ t ∈ ts, t.bt ∉ S) : TL B bp v ts w' :=
  ⟨own_ch h.own hc h1, fun t ht => ⟨(h.tok t ht).1, (h.tok t ht).2.next hc (h2 t ht)⟩, h.apart⟩
/-- a pool's channel has turned -/
theorem TL.chan {B bp bq c k : Nat} {ids : List Nat} {v : Value} {ts : List Tk} {w w' : World} (h : TL B bp v ts w) (hr : Row bq c k ids w) (hc : Ch [c] w w') : TL B bp v ts w' :=
  h.next hc (fun g hg => by simpa using (row_own h.own hr hg).2) (fun t ht => by simpa using (tok_row (h.tok t ht).2 hr).1)
theorem TL.quiet {B bp : Nat} {v : Value} {ts : List Tk} {w w' : World} (h : TL B bp v ts w) (hc : Ch [] w w') : TL B bp v ts w' := h.next hc (by simp) (by simp)
theorem TL.get {B bp : Nat} {v : Value} {ts : List Tk} {w : World} (h : TL B bp v ts w) {j : Nat} (hj : j < ts.length) : Tok (ts[j]'hj).bt bp (ts[j]'hj).id (ts[j]'hj).live w := (h.tok _ (List.getElem_mem hj)).2
theorem TL.cell {B bp g cap n : Nat} {ts : List Tk} {w : World} (h : TL B bp (.slice (some ⟨g, 0, none⟩) n cap) ts w) {j : Nat} (hn : n = ts.length) (hj : j < ts.length) : w.cell? ⟨g, j, none⟩ = some (.pointer (some ⟨(ts[j]'hj).bt, 0, none⟩)) := by
  subst hn
  rw [h.own.cellAt j (by omega), List.getElem?_map, List.getElem?_eq_getElem hj]; rfl
/-- token j has ended -/
theorem TL.ended {B bp c k : Nat} {ids : List Nat} {v : Value} {ts : List Tk} {w w' : World} (h : TL B bp v ts w) (hr : Row bp c k ids w) {j : Nat} (hj : j < ts.length)
    (hc : Ch [c, (ts[j]'hj).bt] w w') (ht : Tok (ts[j]'hj).bt bp (ts[j]'hj).id false w') : TL B bp v (ts.set j ⟨(ts[j]'hj).bt, (ts[j]'hj).id, false⟩) w' := by
  have hm : (ts.set j ⟨(ts[j]'hj).bt, (ts[j]'hj).id, false⟩).map Tk.ptr = ts.map Tk.ptr := by
    rw [List.map_set]; apply List.ext_getElem (by simp)
    intro i h1 h2
    by_cases e : j = i
    · subst e; simp [Tk.ptr]
    · simp [e]
  have hm2 : (ts.set j ⟨(ts[j]'hj).bt, (ts[j]'hj).id, false⟩).map Tk.bt = ts.map Tk.bt := by
    rw [List.map_set]; apply List.ext_getElem (by simp)
    intro i h1 h2
    by_cases e : j = i
    · subst e; simp
    · simp [e]
  refine ⟨?_, ?_, by rw [hm2]; exact h.apart⟩
  · rw [hm, List.length_set]
    exact own_ch h.own hc fun g hg => by
      have h1 := (row_own h.own hr hg).2
      have h2 := tok_own h.own (h.get hj) hg
      simp [h1, h2]
  · intro t hmem
    obtain ⟨i, hi, rfl⟩ := List.getElem_of_mem hmem
    have hi' : i < ts.length := by simpa using hi
    by_cases e : j = i
    · subst e
      rw [List.getElem_set_self]
      exact ⟨(h.tok _ (List.getElem_mem hj)).1, ht⟩
    · rw [List.getElem_set_ne e]
      have hne : (ts[i]'hi').bt ≠ (ts[j]'hj).bt := by
        intro hh
        have := (List.getElem_inj (h₀ := by simpa using hi') (h₁ := by simpa using hj) h.apart).1 (show (ts.map Tk.bt)[i]'(by simpa using hi') = (ts.map Tk.bt)[j]'(by simpa using hj) by simpa using hh)
        exact e this.symm
      refine ⟨(h.tok _ (List.getElem_mem hi')).1, (h.get hi').next hc ?_⟩
      have := (tok_row (h.get hi') hr).1
      simp [this, hne]
/-- one more is appended -/
theorem TL.more {B bp : Nat} {v v' : Value} {ts : List Tk} {t : Tk} {w w' : World} (h : TL B bp v ts w) (ht : Tok t.bt bp t.id t.live w) (hB : B ≤ t.bt) (hn : ∀ x ∈ ts, x.bt ≠ t.bt)
    (ho : w'.ownsRow B 28 1 v' (ts.length + 1) (ts.map Tk.ptr ++ [t.ptr])) (hg : w.grownBy w' v.ownBlock) : TL B bp v' (ts ++ [t]) w' := by
  have hch := chOf hg
  refine ⟨by simpa using ho, ?_, ?_⟩
  · intro x hx
    rcases List.mem_append.1 hx with hx | hx
    · exact ⟨(h.tok x hx).1, (h.tok x hx).2.next hch (fun hm => tok_own h.own (h.tok x hx).2 (by simpa using hm) rfl)⟩
    · obtain rfl : x = t := by simpa using hx
      exact ⟨hB, ht.next hch (fun hm => tok_own h.own ht (by simpa using hm) rfl)⟩
  · rw [List.map_append, List.nodup_append]
    refine ⟨h.apart, by simp, ?_⟩
    intro a ha b hb
    obtain ⟨x, hx, rfl⟩ := List.mem_map.1 ha
    simp at hb; subst hb
    exact hn x hx
theorem Row.grown {B n bp c k : Nat} {ids : List Nat} {v : Value} {xs : List Value} {w w' : World} (hr : Row bp c k ids w) (h : w.ownsRow B 28 1 v n xs) (hg : w.grownBy w' v.ownBlock) : Row bp c k ids w' :=
  hr.next (chOf hg) (fun hm => (row_own h hr (by simpa using hm)).1 rfl) (fun hm => (row_own h hr (by simpa using hm)).2 rfl)
/-- two have changed places -/
theorem TL.swap {B bp g cap n : Nat} {ts : List Tk} {w : World} (h : TL B bp (.slice (some ⟨g, 0, none⟩) n cap) ts w) (hn : n = ts.length) {i j : Nat} (hi : i < ts.length) (hj : j < ts.length) :
    TL B bp (.slice (some ⟨g, 0, none⟩) n cap) ((ts.set i (ts[j]'hj)).set j (ts[i]'hi)) ((w.setCell ⟨g, i, none⟩ (.pointer (some ⟨(ts[j]'hj).bt, 0, none⟩))).setCell ⟨g, j, none⟩ (.pointer (some ⟨(ts[i]'hi).bt, 0, none⟩))) ∧
      Ch [g] w ((w.setCell ⟨g, i, none⟩ (.pointer (some ⟨(ts[j]'hj).bt, 0, none⟩))).setCell ⟨g, j, none⟩ (.pointer (some ⟨(ts[i]'hi).bt, 0, none⟩))) := by
  subst hn
  have hp := List.set_set_perm hi hj
  have h1 := h.own.stored i (.pointer (some ⟨(ts[j]'hj).bt, 0, none⟩))
  have h2 := h1.1.stored j (.pointer (some ⟨(ts[i]'hi).bt, 0, none⟩))
  have hc : Ch [g] w ((w.setCell ⟨g, i, none⟩ (.pointer (some ⟨(ts[j]'hj).bt, 0, none⟩))).setCell ⟨g, j, none⟩ (.pointer (some ⟨(ts[i]'hi).bt, 0, none⟩))) :=
    ((Ch.refl _ _).setCell (by simp) _).setCell (by simp) _
  refine ⟨⟨?_, ?_, ?_⟩, hc⟩
  · have := h2.1
    rw [List.length_set, List.length_set, List.map_set, List.map_set]
    exact this
  · intro t ht
    have ht' := hp.mem_iff.1 ht
    exact ⟨(h.tok t ht').1, (h.tok t ht').2.next hc (by
      have := tok_own h.own (h.tok t ht').2 (g := g) rfl
      simpa using fun e => this e.symm)⟩
  · exact (hp.map Tk.bt).nodup_iff.2 h.apart
end Go.Proofs.Ytppakcijcjgoiaa
