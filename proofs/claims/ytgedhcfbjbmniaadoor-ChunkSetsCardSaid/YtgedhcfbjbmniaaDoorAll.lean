/-
  The iterator of the set's numbers: what it does with whatever round.
-/
import Derived.RangeFuncNested
import Derived.RangeFuncBound
import Derived.RangeFuncCalls
import Derived.RangeFuncLeaves
import Derived.Shelf.Abstract
import Derived.Shelf.RegionOpen
import Derived.WalkKit
import Derived.OwnWalkIn
import Derived.TacticsInMore
import Derived.LoopNIn
import Derived.LoopIn
import Derived.Test.YtgedhcfbjbmniaaDoorNth
namespace Go.Proofs.YtgedhcfbjbmniaaDoor
open Go.RowKit Go.Shelf
set_option linter.unusedVariables false
attribute [local go_sem] Oper.semAt_some

/-- how many are still to come, read off the world -/
def left (Bc : Nat) (W : World) : Nat :=
  match W.cell? ⟨Bc, 0, none⟩ with
  | some (.int _ z) => (low z.toNat 32).length
  | _ => 0

def boxB (z : Nat) : Obj := .cells #[.int .u32 z] 24
theorem box_cell {W : World} {Bc z : Nat} (h : W.heap[Bc]? = some (boxB z)) : W.cell? ⟨Bc, 0, none⟩ = some (.int .u32 z) ∧ W.frozen? ⟨Bc, 0, none⟩ = false := by
  constructor
  · simp [World.cell?, h, boxB]
  · simp [World.frozen?, h, boxB]
theorem box_left {W : World} {Bc z : Nat} (h : W.heap[Bc]? = some (boxB z)) : left Bc W = (low z 32).length := by
  unfold left
  rw [(box_cell h).1]; simp
theorem box_set {W : World} {Bc z : Nat} (y : Nat) (h : W.heap[Bc]? = some (boxB z)) : (W.setCell ⟨Bc, 0, none⟩ (.int .u32 y)).heap[Bc]? = some (boxB y) := by
  simp only [World.setCell, Array.getElem?_modify, if_true, h]; rfl

set_option maxRecDepth 100000 in
set_option maxHeartbeats 2000000 in
theorem all1_in (n : Nat) (hn : 2 ≤ n) (l Bc x : Nat) (hx : x < 4294967296) (J Jx : List Nat → World → Prop)
    (hJs : ∀ pre W v, J pre W → J pre (W.setCell ⟨Bc, 0, none⟩ v)) (hJT : ∀ pre W, J pre W → Tab W)
    (hY : ∀ pre k W, J pre W → pre ++ [k] <+: low x 32 → YieldAt Fence.wide (n - 1) Tryd.prog l #[.int .i64 (k : Nat)] W fun e W' =>
      (e = .returned (.bool true) ∧ J (pre ++ [k]) W' ∧ W'.heap[Bc]? = W.heap[Bc]?) ∨ (e = .returned (.bool false) ∧ Jx (pre ++ [k]) W'))
    (W : World) (hB : W.heap[Bc]? = some (boxB x)) (h0 : J [] W) :
    CallsIn Fence.wide n Tryd.prog 23 #[.func (.yield l) #[] #[], .pointer (some ⟨Bc, 0, none⟩)] W fun e W' => (∃ v, e = .returned v) ∧
      (J (low x 32) W' ∨ ∃ pre, pre <+: low x 32 ∧ Jx pre W') := by
  refine callsIn_of_wp Tryd.func23 rfl trivial ?_ rfl
  simp only [Tryd.ntmps23, List.size_toArray, List.length_cons, List.length_nil, Nat.reduceAdd, Nat.reduceSub, Array.replicate_succ, Array.replicate_zero, List.push_toArray, List.append_toArray, List.nil_append, List.cons_append]
  gi_wp2
  gi_loopw [3] (fun _ wr => ∃ j : Nat, j ≤ (low x 32).length ∧ wr.heap[Bc]? = some (boxB (clears x j)) ∧ J ((low x 32).take j) wr)
    (fun _ wr => left Bc wr)
  case atStart => exact ⟨0, by omega, hB, by simpa using h0⟩
  case round =>
    obtain ⟨j, hj, hb, hJ⟩ := hrel
    by_cases hlt : j < (low x 32).length
    · obtain ⟨hz0, hctz⟩ := clears_least x hx j hlt
      have hz : clears x j < 4294967296 := Nat.lt_of_le_of_lt (clears_le x j) hx
      have htake : (low x 32).take (j + 1) = (low x 32).take j ++ [(low x 32)[j]'hlt] := List.take_succ_eq_append_getElem hlt
      have hpre : (low x 32).take j ++ [(low x 32)[j]'hlt] <+: low x 32 := by rw [← htake]; exact List.take_prefix _ _
      obtain ⟨fn, tmps, assign, body, hy, hR⟩ := hY _ _ wr hJ hpre
      have HR := Lib.hid hR
      have HT := Lib.hid (hJT _ _ hJ)
      have HB := Lib.hid hb
      have HC := Lib.hid hctz
      obtain ⟨hc, hf⟩ := box_cell hb
      have hne : ((clears x j : Nat) : Int) ≠ 0 := by omega
      clear hb hctz hR
      gi_wp2
      refine ⟨trivial, fun _ => by omega, (callsIn_wide.2 (tz_any (clears x j) _ hz hz0 HT.out)).mono ?_⟩
      rintro e w' ⟨rfl, rfl⟩
      rw [HC.out]
      gi_wp2
      refine ⟨fun _ => by omega, HR.out.mono ?_⟩
      rintro e W3 (⟨rfl, hJ3, hk3⟩ | ⟨rfl, hJx3⟩)
      · rw [← htake] at hJ3
        have hb3 : W3.heap[Bc]? = some (boxB (clears x j)) := hk3.trans HB.out
        obtain ⟨hc3, hf3⟩ := box_cell hb3
        have hcl := clear_int (clears x j) hz hz0
        have hm1 : ((clears x j : Nat) : Int) - 1 = ((clears x j : Nat) : Int) - 1 := rfl
        have hset := box_set (clears x (j + 1)) hb3
        have hJ4 := hJs _ _ (.int .u32 (clears x (j + 1) : Nat)) hJ3
        have hm : (((clears x j : Nat) : Int) - 1) % 4294967296 = ((clears x j : Nat) : Int) - 1 := by omega
        have HL := Lib.hid (box_left hset)
        have HL0 := Lib.hid (box_left HB.out)
        have hcl2 : bits .and .u32 ((clears x j : Nat) : Int) (((clears x j : Nat) : Int) - 1) = ((clears x (j + 1) : Nat) : Int) := hcl
        have e1 := clears_low x hx (j + 1) (by omega)
        have e0 := clears_low x hx j (by omega)
        have HSet := Lib.hid hset
        have HJ4 := Lib.hid hJ4
        have HE := Lib.hid (show left Bc (W3.setCell ⟨Bc, 0, none⟩ (.int .u32 (clears x (j + 1) : Nat))) < left Bc wr by
          rw [HL.out, HL0.out, e1, e0, List.length_drop, List.length_drop]; omega)
        clear hcl hm1 hset hJ4 HL HL0 e1 e0 hb3 hk3 hJ3 hc hf HB HR HT HC hy hJ
        gi_wp2
        exact ⟨⟨j + 1, by omega, HSet.out, HJ4.out⟩, HE.out⟩
      · clear hc hf HB HR HT HC hy hJ
        gi_wp2
        refine bodyPost_ret (results_none rfl _ _ _) rfl ?_
        exact ⟨⟨_, rfl⟩, .inr ⟨_, hpre, hJx3⟩⟩
    · have hje : j = (low x 32).length := by omega
      have hz0 : clears x j = 0 := by rw [hje]; exact clears_end x hx
      obtain ⟨hc, hf⟩ := box_cell hb
      rw [hz0] at hc
      have hJ2 : J (low x 32) wr := by rw [hje, List.take_length] at hJ; exact hJ
      gi_wp2
      go_end0
      exact ⟨⟨_, rfl⟩, .inl hJ2⟩

/-- what the iterator and the loop's own books may turn: block Bc; what is no cells, from B on -/
structure Near (Bc B : Nat) (W W' : World) : Prop where
  os : W'.os = W.os
  tape : W'.tape = W.tape
  output : W'.output = W.output
  size : W.heap.size ≤ W'.heap.size
  same : ∀ (k : Nat) (o : Obj), W.heap[k]? = some o → k ≠ Bc → (k < B ∨ o.isCells = true) → W'.heap[k]? = some o
theorem Near.alloc (Bc B : Nat) (W : World) (o : Obj) : Near Bc B W (W.alloc o) :=
  ⟨rfl, rfl, rfl, by simp, fun k o' hk _ _ => (Below.heap_alloc W o k (Array.getElem?_eq_some_iff.1 hk).1).trans hk⟩
theorem Near.set (Bc B : Nat) (W : World) (v : Value) : Near Bc B W (W.setCell ⟨Bc, 0, none⟩ v) :=
  ⟨rfl, rfl, rfl, by simp [World.setCell], fun k o hk hn _ => (Below.heap_setCell _ _ _ _ hn).trans hk⟩
theorem Near.put (Bc B : Nat) (W : World) {l : Nat} {o : Obj} (o' : Obj) (hl : W.heap[l]? = some o) (hB : B ≤ l) (ho : o.isCells = false) : Near Bc B W (W.putObj l o') :=
  ⟨rfl, rfl, rfl, by simp, fun k o2 hk _ hc => by
    have hne : k ≠ l := by
      rintro rfl
      rw [hl] at hk; cases hk
      rcases hc with h | h
      · omega
      · rw [ho] at h; cases h
    exact (World.putObj_heap_other hne).trans hk⟩
/-- what the body must leave: block Bc; what is no cells, from B on -/
structure Leave (Bc B : Nat) (W W' : World) : Prop where
  size : W.heap.size ≤ W'.heap.size
  box : W'.heap[Bc]? = W.heap[Bc]?
  same : ∀ (k : Nat) (o : Obj), B ≤ k → W.heap[k]? = some o → o.isCells = false → W'.heap[k]? = some o

/-- how a round's body may be left -/
def roundPostS (Bc B : Nat) (I : List Nat → World → Prop) (Ix : Code → List Nat → World → Prop) (xs : List Nat) (W : World) : Exit → Act → World → Prop
  | .normal, _, W' => Leave Bc B W W' ∧ I xs W'
  | .ret, _, W' => Leave Bc B W W' ∧ Ix .ret xs W'
  | .exit id, _, W' => Leave Bc B W W' ∧ Ix (.exit id) xs W'
  | .goto t, _, W' => Leave Bc B W W' ∧ Ix (.goto t) xs W'
  | .panic _, _, _ => False
  | .outgrown, _, _ => False

/-- 'for k := range s.All()' -/
theorem range_set {g : Operand} {ps : Array Tmp} {assign body : Code} {Q : Exit → Act → World → Prop} {a : Act} {w : World} {n x Bc : Nat} (hn : 4 ≤ n) (hx : x < 4294967296)
    (hg : a.eval g = .func (.func 23) #[] #[.pointer (some ⟨Bc, 0, none⟩)]) (hps : ps.size = 1) (hbox : w.heap[Bc]? = some (boxB x))
    (I : List Nat → World → Prop) (Ix : Code → List Nat → World → Prop)
    (hI : ∀ pre W W', I pre W → Near Bc w.heap.size W W' → I pre W') (hIx : ∀ c pre W W', Ix c pre W → Near Bc w.heap.size W W' → Ix c pre W')
    (hT : ∀ pre W, I pre W → Tab W) (h0 : I [] w) (a₁ : Nat → Act)
    (hassign : ∀ (l k : Nat) (W : World) (K : Act → World → Prop), K (a₁ k) W →
      assign.wpIn (Fence.wide.inRound l) (n - 1 - 1) Tryd.prog (Exit.then K (fun _ _ _ => False)) { tmps := (ps.zip #[Value.int .i64 (k : Nat)]).foldl (fun t (p, v) => t.setIfInBounds p v) a.tmps, defers := [] } W)
    (hbody : ∀ (l : Nat) (pre : List Nat) (k : Nat) (W : World), I pre W → pre ++ [k] <+: low x 32 → w.heap.size ≤ W.heap.size →
      body.wpIn (Fence.wide.inRound l) (n - 1 - 1) Tryd.prog (roundPostS Bc w.heap.size I Ix (pre ++ [k]) W) (a₁ k) W)
    (hdone : ∀ (D : Nat) (W : World), w.heap.size ≤ D → I (low x 32) W → W.heap[D]? = some (.deferred (some [])) → Q .normal { a with defers := { target := .collected D, args := #[] } :: a.defers } W)
    (hstop : ∀ (D : Nat) (c : Code) (pre : List Nat) (W : World), w.heap.size ≤ D → pre <+: low x 32 → Ix c pre W → W.heap[D]? = some (.deferred (some [])) →
      c.wpIn Fence.wide n Tryd.prog Q { a with defers := { target := .collected D, args := #[] } :: a.defers } W) :
    (Code.rangeFunc g ps assign body).wpIn Fence.wide n Tryd.prog Q a w := by
  have hBl : Bc < w.heap.size := (Array.getElem?_eq_some_iff.1 hbox).1
  refine wpIn_rangeFunc ?_
  intro fn _
  show ∃ _, _
  obtain ⟨book, hbook⟩ : ∃ book : LoopState → Option Code → Loop, book = fun st pe => { state := st, pending := pe, fn, tmps := a.tmps, params := ps, assign, body, defers := w.heap.size } := ⟨_, rfl⟩
  obtain ⟨W1, hW1⟩ : ∃ W1, (w.alloc (.deferred (some []))).alloc (.loop (book .ready none)) = W1 := ⟨_, rfl⟩
  have l1 : W1.heap[w.heap.size + 1]? = some (.loop (book .ready none)) := by
    rw [← hW1]; have h := World.alloc_heap_new (w.alloc (.deferred (some []))) (.loop (book .ready none)); rwa [World.size_alloc] at h
  have d1 : W1.heap[w.heap.size]? = some (.deferred (some [])) := by
    rw [← hW1]; exact (Below.heap_alloc _ _ _ (by simp)).trans (World.alloc_heap_new w _)
  have b1 : W1.heap[Bc]? = some (boxB x) := by
    rw [← hW1]; exact (Below.heap_alloc _ _ _ (by simp; omega)).trans ((Below.heap_alloc _ _ _ hBl).trans hbox)
  have i1 : I [] W1 := by rw [← hW1]; exact hI _ _ _ (hI _ _ _ h0 (.alloc _ _ _ _)) (.alloc _ _ _ _)
  have enter : ∀ args W, (callFunc 23 args).run Tryd.prog W = .ok (.enter 23 args) W := enters_of Tryd.func23 (by kernel_rfl) rfl
  refine ⟨w.heap.size + 1, [{ target := .collected w.heap.size, args := #[] }], W1, { target := .fn (.func 23) #[.pointer (some ⟨Bc, 0, none⟩)], args := #[.func (.yield (w.heap.size + 1)) #[] #[]] }, W1, 23,
    #[.func (.yield (w.heap.size + 1)) #[] #[], .pointer (some ⟨Bc, 0, none⟩)], W1, ?_, ?_, fun _ _ => trivial, ?_, fun _ => by omega, ?_⟩
  · rw [← hW1, hbook]; exact run_enterLoop_outer _ _ _ _ _
  · simp only [resolve, hg]
    simp [go_sem]
  · simp [invoke, go_sem, enter]
  · refine (all1_in (n - 1) (by omega) (w.heap.size + 1) Bc x hx
      (fun pre W => I pre W ∧ W.heap[w.heap.size + 1]? = some (.loop (book .ready none)) ∧ W.heap[w.heap.size]? = some (.deferred (some [])) ∧ w.heap.size ≤ W.heap.size)
      (fun pre W => ∃ c, Ix c pre W ∧ W.heap[w.heap.size + 1]? = some (.loop (book .done (some c))) ∧ W.heap[w.heap.size]? = some (.deferred (some [])))
      (fun pre W v ⟨p1, p2, p3, p4⟩ => ⟨hI _ _ _ p1 (.set _ _ _ _), (Below.heap_setCell _ _ _ _ (by simp; omega)).trans p2, (Below.heap_setCell _ _ _ _ (by simp; omega)).trans p3, by simpa [World.setCell] using p4⟩)
      (fun pre W p => hT _ _ p.1) ?_ W1 b1 ⟨i1, l1, d1, by rw [← hW1]; simp; omega⟩).mono ?_
    · rintro pre k W ⟨hi, hl, hd, hsz⟩ hpre
      have hlt : w.heap.size + 1 < W.heap.size := (Array.getElem?_eq_some_iff.1 hl).1
      have hy := run_yield (P := Tryd.prog) (args := #[Value.int .i64 (k : Nat)]) hl (by rw [hbook]; exact hps.symm)
      rw [hbook] at hy
      refine ⟨fn, _, assign, body, hy, roundIn_of_wpIn trivial (hassign _ k W _ ⟨_, run_beginRound hl (by rw [hbook]), ?_⟩)⟩
      obtain ⟨Wb, hWb⟩ : ∃ Wb, W.putObj (w.heap.size + 1) (.loop { book .ready none with state := .busy }) = Wb := ⟨_, rfl⟩
      have lb : Wb.heap[w.heap.size + 1]? = some (.loop { book .ready none with state := .busy }) := by rw [← hWb]; exact World.putObj_heap_same hlt
      have db : Wb.heap[w.heap.size]? = some (.deferred (some [])) := by rw [← hWb]; exact (World.putObj_heap_other (by omega)).trans hd
      have ib : I pre Wb := by rw [← hWb]; exact hI _ _ _ hi (.put _ _ _ _ hl (by omega) rfl)
      have bb : Wb.heap[Bc]? = W.heap[Bc]? := by rw [← hWb]; exact World.putObj_heap_other (by omega)
      have sb : w.heap.size ≤ Wb.heap.size := by rw [← hWb]; simpa using hsz
      rw [hWb]
      refine wpIn_mono (hbody _ pre k Wb ib hpre sb) ?_
      have fin : ∀ (jump : Option Code) (W3 : World), Leave Bc w.heap.size Wb W3 →
          (Instr.endRound (w.heap.size + 1) jump).run Tryd.prog W3 = .ok (.bool jump.isNone) (W3.putObj (w.heap.size + 1) (.loop (book (if jump.isNone then .ready else .done) jump))) ∧
          W3.heap[w.heap.size + 1]? = some (.loop { book .ready none with state := .busy }) ∧
          (W3.putObj (w.heap.size + 1) (.loop (book (if jump.isNone then .ready else .done) jump))).heap[w.heap.size + 1]? = some (.loop (book (if jump.isNone then .ready else .done) jump)) ∧
          (W3.putObj (w.heap.size + 1) (.loop (book (if jump.isNone then .ready else .done) jump))).heap[w.heap.size]? = some (.deferred (some [])) := fun jump W3 hv => by
        have l3 := hv.same _ _ (by omega) lb rfl
        have h := run_endRound (P := Tryd.prog) jump l3
        rw [hbook] at h ⊢
        exact ⟨h, by rw [hbook] at l3; exact l3, World.putObj_heap_same (Array.getElem?_eq_some_iff.1 l3).1, (World.putObj_heap_other (by omega)).trans (hv.same _ _ (Nat.le_refl _) db rfl)⟩
      rintro e a3 W3 hp
      have ended : ∀ c, Leave Bc w.heap.size Wb W3 → Ix c (pre ++ [k]) W3 → ∃ v W4, (Instr.endRound (w.heap.size + 1) (some c)).run Tryd.prog W3 = .ok v W4 ∧
          ((Ending.returned v = .returned (.bool true) ∧ (I (pre ++ [k]) W4 ∧ W4.heap[w.heap.size + 1]? = some (.loop (book .ready none)) ∧ W4.heap[w.heap.size]? = some (.deferred (some [])) ∧ w.heap.size ≤ W4.heap.size) ∧ W4.heap[Bc]? = W.heap[Bc]?) ∨
           (Ending.returned v = .returned (.bool false) ∧ ∃ c, Ix c (pre ++ [k]) W4 ∧ W4.heap[w.heap.size + 1]? = some (.loop (book .done (some c))) ∧ W4.heap[w.heap.size]? = some (.deferred (some [])))) := fun c hv hix => by
        obtain ⟨h1, h2, h3, h4⟩ := fin (some c) W3 hv
        exact ⟨_, _, h1, .inr ⟨rfl, c, hIx _ _ _ _ hix (.put _ _ _ _ h2 (by omega) rfl), h3, h4⟩⟩
      cases e with
      | normal =>
        obtain ⟨hv, hi3⟩ := hp
        obtain ⟨h1, h2, h3, h4⟩ := fin none W3 hv
        refine ⟨_, _, h1, .inl ⟨rfl, ⟨hI _ _ _ hi3 (.put _ _ _ _ h2 (by omega) rfl), h3, h4, ?_⟩, ?_⟩⟩
        · have := hv.size; simp; omega
        · exact (World.putObj_heap_other (by omega)).trans (hv.box.trans bb)
      | ret => exact ended _ hp.1 hp.2
      | exit id => exact ended _ hp.1 hp.2
      | goto t => exact ended _ hp.1 hp.2
      | panic ch => exact hp.elim
      | outgrown => exact hp.elim
    · rintro e W2 ⟨⟨v, rfl⟩, (⟨hi, hl, hd, _⟩ | ⟨pre, hpre, c, hi, hl, hd⟩)⟩
      · refine ⟨none, _, by have h := run_endLoop (P := Tryd.prog) hl (by rw [hbook]; simp); rw [hbook] at h; exact h, hdone _ _ (Nat.le_refl _) (hI _ _ _ hi (.put _ _ _ _ hl (by omega) rfl)) ((World.putObj_heap_other (by omega)).trans hd)⟩
      · refine ⟨some c, _, by have h := run_endLoop (P := Tryd.prog) hl (by rw [hbook]; simp); rw [hbook] at h; exact h, hstop _ c pre _ (Nat.le_refl _) hpre (hIx _ _ _ _ hi (.put _ _ _ _ hl (by omega) rfl)) ((World.putObj_heap_other (by omega)).trans hd)⟩
theorem foldl_one (p : Tmp) (v : Value) (T : Array Value) : ((#[p].zip #[v]).foldl (fun t (q, u) => t.setIfInBounds q u) T) = T.setIfInBounds p v := by simp
/-- 'for range s.All()' -/
theorem range_skip {g : Operand} {p : Tmp} {body : Code} {Q : Exit → Act → World → Prop} {a : Act} {w : World} {n x Bc : Nat} (hn : 4 ≤ n) (hx : x < 4294967296)
    (hg : a.eval g = .func (.func 23) #[] #[.pointer (some ⟨Bc, 0, none⟩)]) (hbox : w.heap[Bc]? = some (boxB x))
    (I : List Nat → World → Prop) (Ix : Code → List Nat → World → Prop)
    (hI : ∀ pre W W', I pre W → Near Bc w.heap.size W W' → I pre W') (hIx : ∀ c pre W W', Ix c pre W → Near Bc w.heap.size W W' → Ix c pre W')
    (hT : ∀ pre W, I pre W → Tab W) (h0 : I [] w)
    (hbody : ∀ (l : Nat) (pre : List Nat) (k : Nat) (W : World), I pre W → pre ++ [k] <+: low x 32 → w.heap.size ≤ W.heap.size →
      body.wpIn (Fence.wide.inRound l) (n - 1 - 1) Tryd.prog (roundPostS Bc w.heap.size I Ix (pre ++ [k]) W) { tmps := a.tmps.setIfInBounds p (.int .i64 (k : Nat)), defers := [] } W)
    (hdone : ∀ (D : Nat) (W : World), w.heap.size ≤ D → I (low x 32) W → W.heap[D]? = some (.deferred (some [])) → Q .normal { a with defers := { target := .collected D, args := #[] } :: a.defers } W)
    (hstop : ∀ (D : Nat) (c : Code) (pre : List Nat) (W : World), w.heap.size ≤ D → pre <+: low x 32 → Ix c pre W → W.heap[D]? = some (.deferred (some [])) →
      c.wpIn Fence.wide n Tryd.prog Q { a with defers := { target := .collected D, args := #[] } :: a.defers } W) :
    (Code.rangeFunc g #[p] Code.skip body).wpIn Fence.wide n Tryd.prog Q a w :=
  range_set hn hx hg rfl hbox I Ix hI hIx hT h0 (fun k => { tmps := a.tmps.setIfInBounds p (.int .i64 (k : Nat)), defers := [] })
    (fun l k W K hK => by rw [foldl_one]; exact wpIn_skip hK) hbody hdone hstop
end Go.Proofs.YtgedhcfbjbmniaaDoor
