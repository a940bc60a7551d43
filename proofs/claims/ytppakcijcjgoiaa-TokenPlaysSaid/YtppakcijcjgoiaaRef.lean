/-
  The document's pool: its block and its three slices.
-/
import Derived.Test.YtppakcijcjgoiaaDraw
import Derived.Test.YtppakcijcjgoiaaList
import Derived.Deep.AppendLies
namespace Go.Proofs.Ytppakcijcjgoiaa
open Go.RowKit Go.Conc
set_option linter.unusedVariables false

theorem Try.info3 : (Try.prog.info? 3).map (fun i => (i.zero, i.size, i.bytes)) = some (some (.int .i64 0), 1, 8) := by kernel_rfl
theorem Try.info4 : (Try.prog.info? 4).map (fun i => (i.zero, i.size, i.bytes)) = some (some (.bool false), 1, 1) := by kernel_rfl

def refB (n : Nat) (vr vl vi : Value) : Obj := .cells #[.int .i64 n, vr, vl, vi] 46

/-- what the document's pool never writes -/
def Plain : Obj → Prop
  | .cells _ t _ => t ≠ 3 ∧ t ≠ 4 ∧ t ≠ 46
  | _ => True

structure Kp (B : Nat) (w w' : World) : Prop where
  os : w'.os = w.os
  tape : w'.tape = w.tape
  output : w'.output = w.output
  size : w.heap.size ≤ w'.heap.size
  low : ∀ k : Nat, k < B → k < w.heap.size → w'.heap[k]? = w.heap[k]?
  kept : ∀ (k : Nat) (o : Obj), w.heap[k]? = some o → Plain o → w'.heap[k]? = some o

theorem Kp.refl (B : Nat) (w : World) : Kp B w w := ⟨rfl, rfl, rfl, Nat.le_refl _, fun _ _ _ => rfl, fun _ _ h _ => h⟩
theorem Kp.trans {B : Nat} {a b c : World} (h : Kp B a b) (k : Kp B b c) : Kp B a c :=
  ⟨k.os.trans h.os, k.tape.trans h.tape, k.output.trans h.output, Nat.le_trans h.size k.size, fun i hi hl => (k.low i hi (Nat.lt_of_lt_of_le hl h.size)).trans (h.low i hi hl), fun i o hi ho => k.kept i o (h.kept i o hi ho) ho⟩
theorem Kp.of_ch {B : Nat} {S : List Nat} {a b : World} (h : Ch S a b) (hS : ∀ x ∈ S, B ≤ x ∧ ∀ o, a.heap[x]? = some o → ¬ Plain o) : Kp B a b :=
  ⟨h.os, h.tape, h.output, h.size, fun k hk hl => h.block k hl fun hm => by have := (hS k hm).1; omega,
    fun k o hk ho => h.some hk fun hm => (hS k hm).2 o hk ho⟩
theorem Kp.below {B : Nat} {a b w : World} (h : Kp B a b) (hb : Below B w a) (hB : B ≤ a.heap.size) : Below B w b :=
  hb.trans ⟨h.os, h.tape, h.output, h.size, fun k hk => h.low k hk (by omega)⟩
theorem Kp.row {B bp c k : Nat} {ids : List Nat} {a b : World} (h : Kp B a b) (hr : Row bp c k ids a) : Row bp c k ids b :=
  let ⟨hp, s, r, hh⟩ := hr; ⟨h.kept _ _ hp ⟨by decide, by decide, by decide⟩, s, r, h.kept _ _ hh trivial⟩
theorem Kp.tok {B bt bp id : Nat} {live : Bool} {a b : World} (h : Kp B a b) (ht : Tok bt bp id live a) : Tok bt bp id live b :=
  h.kept _ _ ht ⟨by decide, by decide, by decide⟩
theorem Kp.own {B B' n : Nat} {v : Value} {xs : List Value} {a b : World} (h : Kp B a b) (ho : a.ownsRow B' 28 1 v n xs) : b.ownsRow B' 28 1 v n xs := by
  refine ⟨ho.1, ?_⟩
  rcases ho.2 with hn | ⟨g, cap, cur, rfl, hb, hgg, rest⟩
  · exact .inl hn
  · exact .inr ⟨g, cap, cur, rfl, hb, h.kept _ _ hgg ⟨by decide, by decide, by decide⟩, rest⟩
theorem Kp.tl {B B' bp : Nat} {v : Value} {ts : List Tk} {a b : World} (h : Kp B a b) (ht : TL B' bp v ts a) : TL B' bp v ts b :=
  ⟨h.own ht.own, fun t hm => ⟨(ht.tok t hm).1, h.tok (ht.tok t hm).2⟩, ht.apart⟩

structure Rp (B rb n : Nat) (row : List Nat) (live : List Bool) (ids : List Nat) (vr vl vi : Value) (w : World) : Prop where
  blk : w.heap[rb]? = some (refB n vr vl vi)
  hB : B ≤ rb
  row : w.ownsRow B 3 1 vr row.length (row.map num)
  live : w.ownsRow B 4 1 vl live.length (live.map Value.bool)
  ids : w.ownsRow B 3 1 vi ids.length (ids.map num)
  apart : ∀ g, vr.ownBlock = some g → vi.ownBlock ≠ some g

theorem own_at {B n : Nat} {e : TypeId} {v : Value} {xs : List Value} {w : World} (h : w.ownsRow B e 1 v n xs) {g : Nat} (hg : v.ownBlock = some g) : ∃ cur, w.heap[g]? = some (.cells cur e) := by
  rcases h.2 with ⟨rfl, _⟩ | ⟨g', cap, cur, rfl, _, hgg, _⟩
  · simp [Value.ownBlock] at hg
  · simp [Value.ownBlock] at hg
    subst hg; exact ⟨cur, hgg⟩
theorem own_next {B n : Nat} {e : TypeId} {v : Value} {xs : List Value} {w w' : World} {S : List Nat} (h : w.ownsRow B e 1 v n xs) (hc : Ch S w w') (hS : ∀ g, v.ownBlock = some g → g ∉ S) : w'.ownsRow B e 1 v n xs := by
  refine ⟨h.1, ?_⟩
  rcases h.2 with hn | ⟨g, cap, cur, rfl, hb, hgg, rest⟩
  · exact .inl hn
  · exact .inr ⟨g, cap, cur, rfl, hb, hc.some hgg (hS g rfl), rest⟩
theorem own_ne {B n : Nat} {e : TypeId} {v : Value} {xs : List Value} {w : World} (h : w.ownsRow B e 1 v n xs) {j : Nat} {o : Obj} (hj : w.heap[j]? = some o) (ho : ∀ cur, Obj.cells cur e ≠ o) : ∀ g, v.ownBlock = some g → g ≠ j := by
  intro g hg
  obtain ⟨cur, hcur⟩ := own_at h hg
  exact ne_of_objs hcur hj (ho cur)

variable {B rb n : Nat} {row : List Nat} {live : List Bool} {ids : List Nat} {vr vl vi : Value} {w w' : World}
theorem Rp.next {S : List Nat} (h : Rp B rb n row live ids vr vl vi w) (hc : Ch S w w') (h0 : rb ∉ S) (h1 : ∀ g, vr.ownBlock = some g → g ∉ S) (h2 : ∀ g, vl.ownBlock = some g → g ∉ S) (h3 : ∀ g, vi.ownBlock = some g → g ∉ S) : Rp B rb n row live ids vr vl vi w' :=
  ⟨hc.some h.blk h0, h.hB, own_next h.row hc h1, own_next h.live hc h2, own_next h.ids hc h3, h.apart⟩
/-- what another does, who writes plain blocks alone -/
theorem Rp.far {S : List Nat} (h : Rp B rb n row live ids vr vl vi w) (hc : Ch S w w') (hS : ∀ x ∈ S, ∃ o, w.heap[x]? = some o ∧ Plain o) : Rp B rb n row live ids vr vl vi w' := by
  have key : ∀ j cur e, w.heap[j]? = some (.cells cur e) → (e = 3 ∨ e = 4 ∨ e = 46) → j ∉ S := fun j cur e hj he hm => by
    obtain ⟨o, ho, hp⟩ := hS j hm
    rw [hj] at ho
    cases ho
    rcases he with rfl | rfl | rfl
    · exact hp.1 rfl
    · exact hp.2.1 rfl
    · exact hp.2.2 rfl
  refine h.next hc (key rb _ 46 h.blk (by simp)) (fun g hg => ?_) (fun g hg => ?_) (fun g hg => ?_)
  · obtain ⟨cur, hcur⟩ := own_at h.row hg; exact key g cur 3 hcur (by simp)
  · obtain ⟨cur, hcur⟩ := own_at h.live hg; exact key g cur 4 hcur (by simp)
  · obtain ⟨cur, hcur⟩ := own_at h.ids hg; exact key g cur 3 hcur (by simp)
theorem Rp.size (h : Rp B rb n row live ids vr vl vi w) : rb < w.heap.size := lt_of_some h.blk
theorem own_slice {B n : Nat} {e : TypeId} {v : Value} {xs : List Value} {w : World} (h : w.ownsRow B e 1 v n xs) (hn : 0 < n) : ∃ g cap, v = .slice (some ⟨g, 0, none⟩) n cap ∧ B ≤ g := by
  rcases h.2 with ⟨_, h0⟩ | ⟨g, cap, cur, rfl, hb, _⟩
  · omega
  · exact ⟨g, cap, rfl, hb⟩
end Go.Proofs.Ytppakcijcjgoiaa
