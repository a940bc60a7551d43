/-
  A region that draws its order, whose last stores write what its loads read: the loads may be taken first while operation s, which waits for them, has not come up.
-/
import Derived.Test.YtppakcijcjgoiaaBase
import Derived.OrdersHeld
import Derived.StillTail
namespace Go.Proofs.Ytppakcijcjgoiaa
open Go.RowKit
set_option linter.unusedVariables false

section
variable {P : Program} {ops : Array Oper} {Q : Exit → Act → World → Prop} {md : Region.Mode} {S : World → Prop} {s : Nat}

/-- S holds, or s has come up -/
def Till (S : World → Prop) (s : Nat) (l : Array Bool) (w : World) : Prop := l.getD s true = true ∨ S w

/-- whatever order is drawn, and S holds behind each operation till s comes up -/
def AnyM (P : Program) (md : Region.Mode) (ops : Array Oper) (Q : Exit → Act → World → Prop) (S : World → Prop) (s : Nat) : Nat → Array Bool → Act → World → Prop
  | 0, l, a, w => Region.ready md ops l = [] ∧ Q .normal a w
  | f + 1, l, a, w => (Region.ready md ops l = [] → Q .normal a w) ∧
      ∀ i ∈ Region.ready md ops l, wpOp P ops Q i (fun a' w' => Till S s (l.setIfInBounds i true) w' ∧ AnyM P md ops Q S s f (l.setIfInBounds i true) a' w') a w

theorem anyM_any : ∀ (f : Nat) (l : Array Bool) (a : Act) (w : World), AnyM P md ops Q S s f l a w → wpAny P md ops Q f l a w
  | 0, _, _, _, h => h
  | f + 1, _, _, _, h => ⟨h.1, fun i hi => wpOp_mono (fun a' w' k => anyM_any f _ a' w' k.2) (h.2 i hi)⟩

theorem anyM_start {id : Nat} {a : Act} {w : World} (S : World → Prop) (s m : Nat) (hm : P.follows .mixedOrders = true) (hz : ops.size = m)
    (h : AnyM P .any ops Q S s m (Array.replicate m false) a w.drew) : (Code.region id ops true).wp P Q a w := by
  subst hz
  exact wp_region_any hm (anyM_any _ _ _ _ h)

theorem anyM_first {i : Nat} {oi : Oper} {v : Value} {T : World → Prop} (hi : ops[i]? = some oi) (hsel : ∀ (j : Nat) (o : Oper) cs b, ops[j]? = some o → o.op ≠ .select cs b)
    (hQ : ∀ c a w, Q (.panic c) (a.put oi.dst v) w → Q (.panic c) a w) (his : i ≠ s)
    (hT : (∀ w, T w) ∨ (Region.waitsFor md ops s i = true ∧ ∀ w, S w → T w)) :
    ∀ (f : Nat) (l : Array Bool) (a : Act) (w : World), ((∀ w, T w) ∨ l.getD s true = false) →
      (∀ j oj, ops[j]? = some oj → j ≠ i → l.getD j true = false → (∀ e ∈ oj.after, Region.binds md e = true → e.on ≠ i) → oi.apart ops oj = true) →
      i ∈ Region.ready md ops l → YieldsIf P ops T oi v a → T w → Till S s l w →
      AnyM P md ops Q S s f (l.setIfInBounds i true) (a.put oi.dst v) w → AnyM P md ops Q S s (f + 1) l a w := by
  intro f
  induction f with
  | zero =>
    intro l a w hs0 hfree hr hy hTw hSw H
    refine ⟨fun h => (by rw [h] at hr; cases hr), fun j hj => ?_⟩
    by_cases hji : j = i
    · subst hji
      refine hy.wpOp hi hTw ⟨?_, H⟩
      rcases hSw with h | h
      · exact .inl (by rw [getD_set_ne true his]; exact h)
      · exact .inr h
    · have hm := ready_mono hj hji
      rw [H.1] at hm
      cases hm
  | succ f ih =>
    intro l a w hs0 hfree hr hy hTw hSw H
    refine ⟨fun h => (by rw [h] at hr; cases hr), fun j hj => ?_⟩
    by_cases hji : j = i
    · subst hji
      refine hy.wpOp hi hTw ⟨?_, H⟩
      rcases hSw with h | h
      · exact .inl (by rw [getD_set_ne true his]; exact h)
      · exact .inr h
    · have h1 := H.2 j (ready_mono hj hji)
      obtain ⟨hjun, oj, hoj, hall⟩ := mem_ready.1 hj
      have hiun := (mem_ready.1 hr).1
      have hiun' : l.getD i false = false := getD_both hiun
      have hnot : ∀ e ∈ oj.after, Region.binds md e = true → e.on ≠ i := fun e he hb heq => by
        have h2 := hall e he hb
        rw [heq, hiun'] at h2
        cases h2
      have hjs : (∀ w, T w) ∨ j ≠ s := by
        rcases hT with h | ⟨h, _⟩
        · exact .inl h
        · right
          rintro rfl
          obtain ⟨os, hos, e, he, hb, hon⟩ := Region.waitsFor_spec h
          have : os = oj := Option.some.inj (hos.symm.trans hoj)
          subst this
          exact hnot e he hb hon
      have h2 := wpOp_putIf hoj (hfree j oj hoj hji hjun hnot) (fun cs b => hsel i oi cs b hi) (fun cs b => hsel j oj cs b hoj) hQ hy h1
      have hfree' : ∀ k ok, ops[k]? = some ok → k ≠ i → (l.setIfInBounds j true).getD k true = false →
          (∀ e ∈ ok.after, Region.binds md e = true → e.on ≠ i) → oi.apart ops ok = true := fun k ok hk hki hun hno => by
        refine hfree k ok hk hki ?_ hno
        by_cases hjk : j = k
        · subst hjk; exact hjun
        · rw [getD_set_ne true hjk] at hun; exact hun
      refine wpOp_mono (fun a' w' h3 => ?_) h2
      have e1 : ((l.setIfInBounds i true).setIfInBounds j true).getD s true = (l.setIfInBounds j true).getD s true := by
        rw [Array.setIfInBounds_comm _ _ (Ne.symm hji), getD_set_ne true his]
      have hTill : Till S s (l.setIfInBounds j true) w' := by
        rcases h3.2.1 with h | h
        · exact .inl (e1 ▸ h)
        · exact .inr h
      have hs0' : (∀ w, T w) ∨ (l.setIfInBounds j true).getD s true = false := by
        rcases hs0 with h | h
        · exact .inl h
        · rcases hjs with h' | h'
          · exact .inl h'
          · exact .inr (by rw [getD_set_ne true h']; exact h)
      have hTw' : T w' := by
        rcases hT with h | ⟨_, h⟩
        · exact h w'
        · rcases hs0' with h' | h'
          · exact h' w'
          · rcases hTill with h4 | h4
            · rw [h'] at h4; cases h4
            · exact h w' h4
      refine ⟨hTill, ih (l.setIfInBounds j true) a' w' hs0' hfree' (ready_mono hr (Ne.symm hji)) h3.1 hTw' hTill ?_⟩
      rw [Array.setIfInBounds_comm _ _ hji]
      exact h3.2.2

/-- what yields in whatever world, taken first -/
theorem anyM_take {i : Nat} {oi : Oper} {v : Value} {f : Nat} {l : Array Bool} {a : Act} {w : World} (hi : ops[i]? = some oi)
    (hsel : Region.noSelect ops = true) (hf : Region.free md ops l i = true) (hr : (Region.ready md ops l).contains i = true)
    (hQ : ∀ c a w, Q (.panic c) (a.put oi.dst v) w → Q (.panic c) a w) (his : (i != s) = true) (hS : Till S s l w) (hy : Region.wanted oi (yielded ops a.tmps) = true ∧ ∀ w, (execOp a.eval oi).run P w = .ok (.value v) w)
    (h : AnyM P md ops Q S s f (l.setIfInBounds i true) (a.put oi.dst v) w) : AnyM P md ops Q S s (f + 1) l a w :=
  anyM_first (T := fun _ => True) hi (Region.noSelect_spec hsel) hQ (by simpa using his) (.inl fun _ => trivial) f l a w (.inl fun _ => trivial) (Region.free_spec hi hf) (by simpa using hr)
    (.inl ⟨hy.1, fun w _ => hy.2 w⟩) trivial hS h

/-- what yields in whatever world of S, taken first; s waits for it -/
theorem anyM_load {i : Nat} {oi : Oper} {v : Value} {f : Nat} {l : Array Bool} {a : Act} {w : World} (hi : ops[i]? = some oi)
    (hsel : Region.noSelect ops = true) (hf : Region.free md ops l i = true) (hr : (Region.ready md ops l).contains i = true)
    (hQ : ∀ c a w, Q (.panic c) (a.put oi.dst v) w → Q (.panic c) a w) (his : (i != s) = true) (hw : Region.waitsFor md ops s i = true) (hs0 : l.getD s true = false) (hS : S w)
    (hy : Region.wanted oi (yielded ops a.tmps) = true ∧ ∀ w, S w → (execOp a.eval oi).run P w = .ok (.value v) w)
    (h : AnyM P md ops Q S s f (l.setIfInBounds i true) (a.put oi.dst v) w) : AnyM P md ops Q S s (f + 1) l a w :=
  anyM_first (T := S) hi (Region.noSelect_spec hsel) hQ (by simpa using his) (.inr ⟨hw, fun _ h => h⟩) f l a w (.inr hs0) (Region.free_spec hi hf) (by simpa using hr) (.inl hy) hS (.inr hS) h

theorem anyM_done {l : Array Bool} {a : Act} {w : World} (hr : Region.ready md ops l = []) (h : Q .normal a w) : ∀ f, AnyM P md ops Q S s f l a w
  | 0 => ⟨hr, h⟩
  | _ + 1 => ⟨fun _ => h, by rw [hr]; simp⟩

theorem anyM_one {x f : Nat} {l : Array Bool} {a : Act} {w : World} {ox : Oper} (hr : Region.ready md ops l = [x]) (hx : ops[x]? = some ox)
    (ux : ∀ K : Act → World → Prop, (∀ a' w', Till S s (l.setIfInBounds x true) w' → AnyM P md ops Q S s f (l.setIfInBounds x true) a' w' → K a' w') →
      if Region.wanted ox (yielded ops a.tmps) = true then Oper.wp P ox a w K Q else K (a.put ox.dst undef) w) : AnyM P md ops Q S s (f + 1) l a w :=
  ⟨fun h => by rw [hr] at h; simp at h, fun i hi => by
    rw [hr] at hi
    obtain rfl : i = x := by simpa using hi
    exact wpOp_step hx fun K hK => ux K fun a' w' h1 h2 => hK a' w' ⟨h1, h2⟩⟩
theorem anyM_two {x y f : Nat} {l : Array Bool} {a : Act} {w : World} {ox oy : Oper} (hr : Region.ready md ops l = [x, y]) (hx : ops[x]? = some ox) (hy : ops[y]? = some oy)
    (ux : ∀ K : Act → World → Prop, (∀ a' w', Till S s (l.setIfInBounds x true) w' → AnyM P md ops Q S s f (l.setIfInBounds x true) a' w' → K a' w') →
      if Region.wanted ox (yielded ops a.tmps) = true then Oper.wp P ox a w K Q else K (a.put ox.dst undef) w)
    (uy : ∀ K : Act → World → Prop, (∀ a' w', Till S s (l.setIfInBounds y true) w' → AnyM P md ops Q S s f (l.setIfInBounds y true) a' w' → K a' w') →
      if Region.wanted oy (yielded ops a.tmps) = true then Oper.wp P oy a w K Q else K (a.put oy.dst undef) w) : AnyM P md ops Q S s (f + 1) l a w :=
  ⟨fun h => by rw [hr] at h; simp at h, fun i hi => by
    rw [hr] at hi
    rcases List.mem_cons.1 hi with rfl | hi
    · exact wpOp_step hx fun K hK => ux K fun a' w' h1 h2 => hK a' w' ⟨h1, h2⟩
    · obtain rfl : i = y := by simpa using hi
      exact wpOp_step hy fun K hK => uy K fun a' w' h1 h2 => hK a' w' ⟨h1, h2⟩⟩
end
end Go.Proofs.Ytppakcijcjgoiaa
