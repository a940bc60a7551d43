/-
  Two pools and a list of tokens of the first: what is live, and what is in the row.
-/
import Derived.Test.YtppakcijcjgoiaaFull
import Derived.Maps.Own
import Derived.Maps.OwnOps
import Derived.Maps.Views
namespace Go.Proofs.Ytppakcijcjgoiaa
open Go.RowKit Go.Conc Go.Maps
set_option linter.unusedVariables false

/-- the ids of the live ones -/
def lives (ts : List Tk) : List Nat := (ts.filter Tk.live).map Tk.id
theorem lives_nil : lives [] = [] := rfl
theorem lives_app (xs ys : List Tk) : lives (xs ++ ys) = lives xs ++ lives ys := by simp [lives]
theorem lives_one (t : Tk) : lives [t] = if t.live then [t.id] else [] := by
  cases h : t.live <;> simp [lives, h]
theorem lives_cons (t : Tk) (ts : List Tk) : lives (t :: ts) = (if t.live then [t.id] else []) ++ lives ts := by
  rw [← lives_one, ← lives_app]; rfl
theorem lives_ended : ∀ (ts : List Tk) (j : Nat) (h : j < ts.length), (ts[j]'h).live = true →
    ((ts[j]'h).id :: lives (ts.set j ⟨(ts[j]'h).bt, (ts[j]'h).id, false⟩)).Perm (lives ts)
  | [], j, h, _ => by simp at h
  | t :: ts, 0, h, hl => by
    simp only [List.getElem_cons_zero] at hl ⊢
    rw [List.set_cons_zero, lives_cons, lives_cons, hl]
    simp
  | t :: ts, j + 1, h, hl => by
    simp only [List.getElem_cons_succ] at hl ⊢
    have ih := lives_ended ts j (by simpa using h) hl
    rw [List.set_cons_succ, lives_cons, lives_cons]
    exact List.perm_middle.symm.trans (ih.append_left _)
theorem lives_take {ts : List Tk} {y : Nat} (h : y < ts.length) : lives (ts.take (y + 1)) = lives (ts.take y) ++ (if (ts[y]'h).live then [(ts[y]'h).id] else []) := by
  rw [List.take_succ_eq_append_getElem h, lives_app, lives_one]
theorem lives_take_sub (ts : List Tk) (y : Nat) : (lives (ts.take y)).Sublist (lives ts) := ((List.take_sublist y ts).filter _).map _

structure Pools (B bp c bq d k : Nat) (v : Value) (ts : List Tk) (ids : List Nat) (w wr : World) : Prop where
  tl : TL B bp v ts wr
  row : Row bp c k ids wr
  far : Row bq d k (List.range' 1 k) wr
  below : Below B w wr
  hc : B ≤ c
  n1 : bq ≠ bp
  n2 : d ≠ c
  perm : (ids ++ lives ts).Perm (List.range' 1 k)
  range : ∀ t ∈ ts, 1 ≤ t.id ∧ t.id ≤ k

variable {B bp c bq d k : Nat} {v : Value} {ts : List Tk} {ids : List Nat} {w wr wx : World}

theorem Pools.size (h : Pools B bp c bq d k v ts ids w wr) : B ≤ wr.heap.size := by have := h.hc; have := h.row.lt; omega
theorem Pools.len (h : Pools B bp c bq d k v ts ids w wr) : ids.length + (lives ts).length = k := by
  have := h.perm.length_eq
  simpa using this
theorem Pools.nodup (h : Pools B bp c bq d k v ts ids w wr) : (lives ts).Nodup := by
  have h1 : (ids ++ lives ts).Nodup := h.perm.nodup_iff.2 List.nodup_range'
  exact (List.nodup_append.1 h1).2.1
theorem Pools.quiet (h : Pools B bp c bq d k v ts ids w wr) (hx : Ch [] wr wx) : Pools B bp c bq d k v ts ids w wx :=
  ⟨h.tl.quiet hx, h.row.next hx (by simp) (by simp), h.far.next hx (by simp) (by simp), hx.below h.below h.size (by simp), h.hc, h.n1, h.n2, h.perm, h.range⟩
theorem map_apart {mb n : Nat} {D : DataW Unit} {P : Program} {kt : TypeId} {R : Value → Option (DataW Unit × List MemPlace)} (h : wr.ownsMap P kt R mb n D) {j : Nat} {o : Obj} (hj : wr.heap[j]? = some o) (ho : ∀ es cl, o ≠ .map es cl) : j ≠ mb := by
  obtain ⟨es, clock, hb, _⟩ := h
  exact ne_of_objs hj hb (ho es clock)
/-- a map of the call's own has turned -/
theorem Pools.mapped {mb n : Nat} {D : DataW Unit} {P : Program} {kt : TypeId} {R : Value → Option (DataW Unit × List MemPlace)} (h : Pools B bp c bq d k v ts ids w wr) (hm : wr.ownsMap P kt R mb n D) (hB : B ≤ mb) (hg : wr.grownBy wx (some mb)) : Pools B bp c bq d k v ts ids w wx := by
  have hx : Ch [mb] wr wx := chOf hg
  have r : ∀ {p q : Nat} {m : Nat} {js : List Nat}, Row p q m js wr → Row p q m js wx := fun hr => by
    obtain ⟨hp, s, t, hh⟩ := hr
    exact Row.next ⟨hp, s, t, hh⟩ hx (by simpa using map_apart hm hp (by unfold poolB; simp)) (by simpa using map_apart hm hh (by unfold chanB; simp))
  refine ⟨h.tl.next hx (fun g hg => ?_) (fun t ht => ?_), r h.row, r h.far, hx.below h.below h.size (by simpa using hB), h.hc, h.n1, h.n2, h.perm, h.range⟩
  · obtain ⟨cur, hcur⟩ := own_block h.tl.own hg
    simpa using map_apart hm hcur (by simp)
  · simpa using map_apart hm (h.tl.tok t ht).2 (by unfold tokB; simp)
/-- a live token ends -/
theorem Pools.ended (h : Pools B bp c bq d k v ts ids w wr) {j : Nat} (hj : j < ts.length) (hl : (ts[j]'hj).live = true)
    (hx : Ch [c, (ts[j]'hj).bt] wr wx) (hr : Row bp c k (ids ++ [(ts[j]'hj).id]) wx) (ht : Tok (ts[j]'hj).bt bp (ts[j]'hj).id false wx) :
    Pools B bp c bq d k v (ts.set j ⟨(ts[j]'hj).bt, (ts[j]'hj).id, false⟩) (ids ++ [(ts[j]'hj).id]) w wx := by
  have h1 := tok_row (h.tl.get hj) h.far
  have h2 := row_row h.far h.row
  have h3 := (h.tl.tok _ (List.getElem_mem hj)).1
  refine ⟨h.tl.ended h.row hj hx ht, hr, h.far.next hx (by simp; exact ⟨h2, fun e => h1.2 e.symm⟩) (by simp; exact ⟨h.n2, fun e => h1.1 e.symm⟩), hx.below h.below h.size ?_, h.hc, h.n1, h.n2, ?_, ?_⟩
  · intro q hq
    rcases List.mem_cons.1 hq with rfl | hq
    · exact h.hc
    · obtain rfl : q = (ts[j]'hj).bt := by simpa using hq
      exact h3
  · rw [List.append_assoc]
    exact (List.Perm.append_left ids (by simpa using lives_ended ts j hj hl)).trans h.perm
  · intro t ht
    obtain ⟨i, hi, rfl⟩ := List.getElem_of_mem ht
    by_cases e : j = i
    · subst e
      simpa using h.range _ (List.getElem_mem hj)
    · rw [List.getElem_set_ne e]
      exact h.range _ (List.getElem_mem _)

/-! ### the map -/
theorem law3 : Keyed Try.prog 3 := int_keyed Try.underlying3
theorem zero3 (w : World) : (zeroValue 3).run Try.prog w = .ok (.int .i64 0) w := by kernel_rfl

structure Seen (mb y : Nat) (ts : List Tk) (D : DataW Unit) (wr : World) : Prop where
  own : wr.ownsMap Try.prog 3 (plainElem Try.prog 3) mb y D
  isMap : IsMap D
  has : ∀ id : Nat, D.atKey (.int .i64 id) (.lit (.int .i64 0)) = .lit (.int .i64 (if id ∈ lives (ts.take y) then 1 else 0))

theorem wf_nat {n : Nat} (h : n ≤ 4096) : (Lit.int .i64 (n : Int)).wf = true := Go.WalkArith.wf_i64 (by omega)
theorem Seen.made (ts : List Tk) (w : World) : Seen w.heap.size 0 ts (.map []) (w.alloc (.map #[] 0)) :=
  ⟨World.ownsMap_made _ _ _ _, isMap_empty, fun id => by simp [lives_nil, DataW.atKey]⟩
theorem Seen.look {mb y : Nat} {ts : List Tk} {D : DataW Unit} (h : Seen mb y ts D wr) {id : Nat} (hid : id ≤ 4096) :
    (Instr.lookup 37 (.map (some mb)) (.int .i64 (id : Int)) false).run Try.prog wr = .ok (.int .i64 (if id ∈ lives (ts.take y) then 1 else 0)) wr := by
  obtain ⟨c, hrun, hat, _⟩ := h.own.lookup_int law3 Try.underlying37 Try.underlying3 (zero3 _) (keyOf_int_mk Try.underlying3 (wf_nat hid))
  rw [h.has id] at hat
  injection hat with hat
  injection hat with _ hat
  rw [hrun, hat]
theorem Seen.quiet {mb y : Nat} {ts : List Tk} {D : DataW Unit} (h : Seen mb y ts D wr) (hy : y < ts.length) (hl : (ts[y]'hy).live = false) : Seen mb (y + 1) ts D wr :=
  ⟨h.own.mono (by omega), h.isMap, fun id => by rw [h.has id, lives_take hy, hl]; simp⟩
theorem Seen.put {mb y : Nat} {ts : List Tk} {D : DataW Unit} (h : Seen mb y ts D wr) (hy : y < ts.length) (hl : (ts[y]'hy).live = true)
    (ho : wx.ownsMap Try.prog 3 (plainElem Try.prog 3) mb (y + 1) (D.put (.int .i64 ((ts[y]'hy).id : Nat)) (.lit (.int .i64 1)))) :
    Seen mb (y + 1) ts (D.put (.int .i64 ((ts[y]'hy).id : Nat)) (.lit (.int .i64 1))) wx := by
  refine ⟨ho, h.isMap.put _ _, fun id => ?_⟩
  rw [lives_take hy, hl]
  by_cases e : id = (ts[y]'hy).id
  · subst e
    rw [atKey_put_same h.isMap (by simp [WideAt.IsKeyLit])]; simp
  · rw [atKey_put_other (by simp; omega), h.has id]
    simp [e]
end Go.Proofs.Ytppakcijcjgoiaa
