/-
  Pool.End.
-/
import Derived.Test.YtppakcijcjgoiaaBase
import Derived.Conc.CompanyDraw
import Derived.LaidEqlPtr
namespace Go.Proofs.Ytppakcijcjgoiaa
open Go.RowKit Go.Conc
set_option linter.unusedVariables false

section
variable {P : Program} {Q : Goroutine → World → Prop} {b : Frame} {k : List Item} {cs : List Frame} {ops : Array Oper}

theorem lone_oper {i : Nat} {rest : List Nat} {o : Oper} {a : Act} {w : World} (ho : ops[i]? = some o) (hw : Region.wanted o (yielded ops a.tmps) = true) (hk : b.kind ≠ .early)
    (h : uponK o a (fun a' w' => LoneTo P Q (G (b.at a' (.inRegion ops rest :: k)) cs) w') ((execOp a.eval o).run P w)) : LoneTo P Q (G (b.at a (.inRegion ops (i :: rest) :: k)) cs) w := by
  refine LoneTo.goes (n := 1) ?_
  refine Goes.step rfl (fun _ h₁ => ?_)
  subst h₁
  refine goes_oper_k ho hw hk (fun K' hK => ?_)
  exact uponK_mono (fun a' w' hl => hK a' w' ⟨trivial, Goes.stop (fun _ e => by subst e; exact hl)⟩) h

/-- whichever order is drawn; operation m, a communication, comes last; M: how it stands ahead of m -/
def AnyL (P : Program) (ops : Array Oper) (m : Nat) (M : Act → World → Prop) : Nat → Array Bool → Act → World → Prop
  | 0, _, _, _ => False
  | f + 1, l, a, w => (Region.ready .any ops l = [m] ∧ Region.ready .any ops (l.setIfInBounds m true) = [] ∧ M a w) ∨
    (∃ rs, Region.ready .any ops l = rs ∧ rs ≠ [] ∧ ∀ i ∈ rs, ∃ o, ops[i]? = some o ∧ Region.wanted o (yielded ops a.tmps) = true ∧
      uponK o a (fun a' w' => AnyL P ops m M f (l.setIfInBounds i true) a' w') ((execOp a.eval o).run P w))

theorem go_succ (f t : Nat) (l : Array Bool) : Region.linearise.go .any ops (f + 1) t l [] =
    match (Region.ready .any ops l)[t % (Region.ready .any ops l).length]? with
      | some i => Region.linearise.go .any ops f (t / (Region.ready .any ops l).length) (l.setIfInBounds i true) [i]
      | none => [].reverse := by
  simp only [Region.linearise.go]; rfl

theorem anyL_sound {m : Nat} {M : Act → World → Prop} (hk : b.kind ≠ .early) (hM : ∀ a w, M a w → LoneTo P Q (G (b.at a (.inRegion ops [m] :: k)) cs) w) :
    ∀ (f t : Nat) (l : Array Bool) (a : Act) (w : World), AnyL P ops m M f l a w → LoneTo P Q (G (b.at a (.inRegion ops (Region.linearise.go .any ops f t l []) :: k)) cs) w := by
  intro f
  induction f with
  | zero => intro t l a w h; exact h.elim
  | succ f ih =>
    intro t l a w h
    rcases h with ⟨h1, h2, h3⟩ | ⟨rs, hr, hne, hall⟩
    · have e : Region.linearise.go .any ops (f + 1) t l [] = [m] := by
        rw [go_succ, h1]
        simp only [List.length_cons, List.length_nil, Nat.zero_add, Nat.mod_one, List.getElem?_cons_zero]
        rw [linearise_go_acc]
        cases f with
        | zero => simp [Region.linearise.go]
        | succ f => rw [go_succ, h2]; rfl
      rw [e]; exact hM _ _ h3
    · have hlt : t % rs.length < rs.length := Nat.mod_lt _ (List.length_pos_iff.2 hne)
      have hi : rs[t % rs.length]? = some (rs[t % rs.length]'hlt) := List.getElem?_eq_getElem hlt
      obtain ⟨o, ho, hw, hu⟩ := hall (rs[t % rs.length]'hlt) (List.getElem_mem hlt)
      generalize rs[t % rs.length]'hlt = i at hi ho hu
      have e : Region.linearise.go .any ops (f + 1) t l [] = i :: Region.linearise.go .any ops f (t / rs.length) (l.setIfInBounds i true) [] := by
        rw [go_succ, hr, hi]
        simp only []
        rw [linearise_go_acc]; rfl
      rw [e]
      exact lone_oper ho hw hk (uponK_mono (fun a' w' h => ih _ _ _ _ h) hu)

theorem lone_region_draw {id m : Nat} {a : Act} {w : World} (M : Act → World → Prop) (hm : P.follows .mixedOrders = true) (hk : b.kind ≠ .early)
    (h : AnyL P ops m M ops.size (Array.replicate ops.size false) a { w with drawn := w.drawn + 1 })
    (hM : ∀ a w, M a w → LoneTo P Q (G (b.at a (.inRegion ops [m] :: k)) cs) w) : LoneTo P Q (G (b.at a (.code (.region id ops true) :: k)) cs) w := by
  refine LoneTo.goes (n := 1) ?_
  refine Goes.step rfl (fun _ h₁ => ?_)
  subst h₁
  rw [stepG_region_draw]
  simp only [goes_go]
  refine ⟨trivial, Goes.stop (fun _ e => ?_)⟩
  subst e
  simp only [Region.schedule, hm, Bool.true_or, if_true]
  exact anyL_sound hk hM _ _ _ _ _ h

theorem anyL_one {m f x : Nat} {M : Act → World → Prop} {l : Array Bool} {a : Act} {w : World} {ox : Oper} (hr : Region.ready .any ops l = [x]) (hx : ops[x]? = some ox)
    (wx : Region.wanted ox (yielded ops a.tmps) = true) (ux : ∀ K : Act → World → Prop, (∀ a' w', AnyL P ops m M f (l.setIfInBounds x true) a' w' → K a' w') → uponK ox a K ((execOp a.eval ox).run P w)) :
    AnyL P ops m M (f + 1) l a w := .inr ⟨_, hr, by simp, fun i hi => by
      obtain rfl : i = x := by simpa using hi
      exact ⟨ox, hx, wx, ux _ fun _ _ h => h⟩⟩
theorem anyL_two {m f x y : Nat} {M : Act → World → Prop} {l : Array Bool} {a : Act} {w : World} {ox oy : Oper} (hr : Region.ready .any ops l = [x, y]) (hx : ops[x]? = some ox) (hy : ops[y]? = some oy)
    (wx : Region.wanted ox (yielded ops a.tmps) = true) (wy : Region.wanted oy (yielded ops a.tmps) = true)
    (ux : ∀ K : Act → World → Prop, (∀ a' w', AnyL P ops m M f (l.setIfInBounds x true) a' w' → K a' w') → uponK ox a K ((execOp a.eval ox).run P w))
    (uy : ∀ K : Act → World → Prop, (∀ a' w', AnyL P ops m M f (l.setIfInBounds y true) a' w' → K a' w') → uponK oy a K ((execOp a.eval oy).run P w)) :
    AnyL P ops m M (f + 1) l a w := .inr ⟨_, hr, by simp, fun i hi => by
      rcases List.mem_cons.1 hi with rfl | hi
      · exact ⟨ox, hx, wx, ux _ fun _ _ h => h⟩
      · obtain rfl : i = y := by simpa using hi
        exact ⟨oy, hy, wy, uy _ fun _ _ h => h⟩⟩
end

theorem end_nil (t : Value) (w : World) : Calls Try.prog 12 #[.pointer none, t] w fun e w' => e = .returned (.int .i64 4) ∧ w' = w := by
  go_enter Try.func12, Try.ntmps12
  go_wp2
  all_goals go_ret
  all_goals exact ⟨rfl, rfl⟩
theorem end_nil2 (bp : Nat) (w : World) : Calls Try.prog 12 #[.pointer (some ⟨bp, 0, none⟩), .pointer none] w fun e w' => e = .returned (.int .i64 4) ∧ w' = w := by
  go_enter Try.func12, Try.ntmps12
  go_wp2
  all_goals go_ret
  all_goals exact ⟨rfl, rfl⟩
theorem neq_same {tp te : TypeId} {j : TypeInfo} (w : World) (a : Addr) (hp : Try.prog.underlying tp = some (.pointer te)) (hte : Try.prog.info? te = some j) :
    (binOp .neq tp (.pointer (some a)) (.pointer (some a))).run Try.prog w = .ok (.bool false) w := by
  have h : ∀ d : Nat, (Op.equalIn (d + 1) tp (.pointer (some a)) (.pointer (some a))).run Try.prog w = .ok true w := fun d => by
    simp [Op.equalIn, run_underlying hp, sizeOf, typeInfo, hte, run_sameAddr_same]
  simp only [binOp]
  simp [Op.equal, Op.maxDepth, h 9999]
theorem neq_other {tp te : TypeId} {j : TypeInfo} (w : World) {a b : Addr} {ca cb : Array Value} {ta tb : TypeId} (hp : Try.prog.underlying tp = some (.pointer te)) (hte : Try.prog.info? te = some j) (hsz : j.size ≠ 0)
    (hne : a ≠ b) (ha : w.heap[a.block]? = some (.cells ca ta (0, 0))) (hb : w.heap[b.block]? = some (.cells cb tb (0, 0))) :
    (binOp .neq tp (.pointer (some a)) (.pointer (some b))).run Try.prog w = .ok (.bool true) w := by
  have h : ∀ d : Nat, (Op.equalIn (d + 1) tp (.pointer (some a)) (.pointer (some b))).run Try.prog w = .ok false w := fun d => by
    simp [Op.equalIn, run_underlying hp, sizeOf, typeInfo, hte, hsz, run_sameAddr_other w hne ha hb]
  simp only [binOp]
  simp [Op.equal, Op.maxDepth, h 9999]
theorem info51 : ∃ j, Try.prog.info? 51 = some j ∧ j.size ≠ 0 := by
  have h : (Try.prog.info? 51).map (·.size) = some 1 := by kernel_rfl
  obtain ⟨j, hj, hs⟩ := Option.map_eq_some_iff.1 h
  exact ⟨j, hj, by omega⟩
theorem info53 : ∃ j, Try.prog.info? 53 = some j ∧ j.size ≠ 0 := by
  have h : (Try.prog.info? 53).map (·.size) = some 3 := by kernel_rfl
  obtain ⟨j, hj, hs⟩ := Option.map_eq_some_iff.1 h
  exact ⟨j, hj, by omega⟩
def endT (bp bt c i : Nat) : Act := ⟨#[.pointer (some ⟨bp, 0, none⟩), .pointer (some ⟨bt, 0, none⟩), undef, undef, .int .i64 0, .pointer (some ⟨bp, 0, none⟩), .bool false, .bool false, .pointer (some ⟨bt, 0, none⟩), .bool true, .bool false, .bool false, .bool false, .pointer (some ⟨bt, 0, none⟩), .pointer (some ⟨bt, 0, none⟩), .pointer (some ⟨bt, 0, none⟩), .pointer (some ⟨bp, 0, none⟩), .pointer (some ⟨bp, 0, none⟩), .bool false, .bool false, .pointer (some ⟨bt, 0, none⟩), .pointer (some ⟨bt, 0, none⟩), .pointer (some ⟨bt, 2, none⟩), .pointer (some ⟨bp, 0, none⟩), .pointer (some ⟨bp, 0, none⟩), .pointer (some ⟨bp, 0, none⟩), .chan (some c), .pointer (some ⟨bt, 0, none⟩), .pointer (some ⟨bt, 0, none⟩), .pointer (some ⟨bt, 1, none⟩), .int .i64 i], []⟩
theorem heap_set {w : World} {b j : Nat} {cs : Array Value} {t : TypeId} (v : Value) (h : w.heap[b]? = some (.cells cs t)) : (w.setCell ⟨b, j, none⟩ v).heap[b]? = some (.cells (cs.setIfInBounds j v) t) := by
  simp only [World.setCell, Array.getElem?_modify, if_true, h]; rfl
/-- it isn't live -/
theorem end_dead (bp bq bt id : Nat) (w : World) (h : w.heap[bt]? = some (tokB bq id false)) :
    Calls Try.prog 12 #[.pointer (some ⟨bp, 0, none⟩), .pointer (some ⟨bt, 0, none⟩)] w fun e w' => e = .returned (.int .i64 4) ∧ w' = w := by
  have h2 := cell_of (i := 2) (v := .bool false) h rfl
  go_enter Try.func12, Try.ntmps12
  go_wp2
  all_goals go_ret
  all_goals exact ⟨rfl, rfl⟩
/-- another pool's -/
theorem end_other (bp bq bt id c d : Nat) (w : World) (h : w.heap[bt]? = some (tokB bq id true)) (hp : w.heap[bp]? = some (poolB c)) (hq : w.heap[bq]? = some (poolB d)) (hn : bq ≠ bp) :
    Calls Try.prog 12 #[.pointer (some ⟨bp, 0, none⟩), .pointer (some ⟨bt, 0, none⟩)] w fun e w' => e = .returned (.int .i64 4) ∧ w' = w := by
  have h0 := cell_of (i := 0) (v := .pointer (some ⟨bq, 0, none⟩)) h rfl
  have h2 := cell_of (i := 2) (v := .bool true) h rfl
  obtain ⟨j51, hj51, hs51⟩ := info51
  have hb := neq_other w (a := ⟨bq, 0, none⟩) (b := ⟨bp, 0, none⟩) Try.underlying24 hj51 hs51 (fun e => hn (by injection e)) hq hp
  go_enter Try.func12, Try.ntmps12
  go_wp2
  all_goals go_ret
  all_goals exact ⟨rfl, rfl⟩

theorem enter12 (bp bt : Nat) : Frame.enter Try.prog 12 #[.pointer (some ⟨bp, 0, none⟩), .pointer (some ⟨bt, 0, none⟩)] .normal = (base 12).at ⟨#[.pointer (some ⟨bp, 0, none⟩), .pointer (some ⟨bt, 0, none⟩), undef, undef, undef, undef, undef, undef, undef, undef, undef, undef, undef, undef, undef, undef, undef, undef, undef, undef, undef, undef, undef, undef, undef, undef, undef, undef, undef, undef, undef], []⟩ [.code (Try.f12.body.getD .skip)] := by
  simp [Frame.enter, Frame.at, Try.func12, base, Try.f12]
  try rfl

set_option maxRecDepth 100000 in
set_option maxHeartbeats 4000000 in
theorem end_ok (bp c k s r bt i : Nat) (ids : List Nat) (w : World) (h : w.heap[bp]? = some (poolB c)) (hc : w.heap[c]? = some (chanB k ids s r)) (ht : w.heap[bt]? = some (tokB bp i true)) (hk : ids.length < k) :
    Calls Try.prog 12 #[.pointer (some ⟨bp, 0, none⟩), .pointer (some ⟨bt, 0, none⟩)] w fun e w' => e = .returned (.int .i64 0) ∧
      w'.heap.size = w.heap.size ∧ Ch [c, bt] w w' ∧ w'.heap[c]? = some (chanB k (ids ++ [i]) (s + 1) r) ∧ w'.heap[bt]? = some (tokB bp i false) := by
  have h0 := cell_of (i := 0) (v := .chan (some c)) h rfl
  have t0 := cell_of (i := 0) (v := .pointer (some ⟨bp, 0, none⟩)) ht rfl
  have t1 := cell_of (i := 1) (v := .int .i64 i) ht rfl
  have t2 := cell_of (i := 2) (v := .bool true) ht rfl
  have tf := frozen_of (i := 2) ht
  have hlt := lt_of_some hc
  obtain ⟨j51, hj51, hs51⟩ := info51
  have hbp := neq_same w ⟨bp, 0, none⟩ Try.underlying24 hj51
  clear hj51 hs51
  refine calls_of_loneTo fun cs => ?_
  rw [enter12]
  refine LoneTo.goes (n := 100) ?_
  simp only [Try.f12, Option.getD_some]
  repeat (first | s_c stepG_seq | s_c stepG_skip | s_reg | s_c stepG_region_end | s_c stepG_block | s_cond true | s_cond false | s_c stepG_ret' | s_op)
  s_call Try.func14 (by kernel_rfl) Try.f14
  repeat (first | s_c stepG_seq | s_c stepG_skip | s_reg | s_c stepG_region_end | s_c stepG_block | s_cond true | s_cond false | s_c stepG_ret' | s_op)
  s_leave1 Try.func14
  repeat (first | s_c stepG_seq | s_c stepG_skip | s_reg | s_c stepG_region_end | s_c stepG_block | s_cond true | s_cond false | s_c stepG_ret' | s_op)
  s_stop
  have hb1 : (w.setCell ⟨bt, 2, none⟩ (.bool false)).heap[bt]? = some (tokB bp i false) := heap_set _ ht
  have hb2 : (w.setCell ⟨bt, 2, none⟩ (.bool false)).heap[c]? = some (chanB k ids s r) := (Below.heap_setCell _ _ _ _ (ne_of_objs hc ht (by unfold chanB tokB; simp))).trans hc
  have hb3 : (w.setCell ⟨bt, 2, none⟩ (.bool false)).heap[bp]? = some (poolB c) := (Below.heap_setCell _ _ _ _ (ne_of_objs h ht (by unfold poolB tokB; simp))).trans h
  have hch : Ch [c, bt] w (w.setCell ⟨bt, 2, none⟩ (.bool false)) := (Ch.refl _ _).setCell (by simp) _
  have hsz : (w.setCell ⟨bt, 2, none⟩ (.bool false)).heap.size = w.heap.size := by simp [World.setCell]
  generalize w.setCell ⟨bt, 2, none⟩ (.bool false) = w1 at *
  have hdr : ({ w1 with drawn := w1.drawn + 1 } : World) = w1.drewN 1 := rfl
  clear h0 t0 t1 t2 tf hbp
  refine lone_region_draw (m := 8) (fun a ww => a = endT bp bt c i ∧ ww = w1.drewN 1) (by kernel_rfl) (by decide) ?_ ?_
  · rw [hdr]
    have c0 := cell_of (w := w1.drewN 1) (i := 0) (v := .chan (some c)) hb3 rfl
    have c1 := cell_of (w := w1.drewN 1) (i := 1) (v := .int .i64 i) hb1 rfl
    generalize w1.drewN 1 = w2 at *
    simp only [List.size_toArray, List.length_cons, List.length_nil, Nat.reduceAdd, Nat.zero_add, Array.replicate_succ, Array.replicate_zero, List.push_toArray, List.nil_append, List.cons_append]
    all_goals first
      | refine anyL_two (l := #[false, false, false, false, false, false, false, false, false]) (x := 0) (y := 4) (by kernel_rfl) rfl rfl rfl rfl ?_ ?_
    all_goals
      intro K hK
      go_simp
      refine hK _ _ ?_
      clear hK K
      walk_nrm
    all_goals first
      | refine anyL_two (l := #[false, false, false, false, true, false, false, false, false]) (x := 0) (y := 5) (by kernel_rfl) rfl rfl rfl rfl ?_ ?_
      | refine anyL_two (l := #[true, false, false, false, false, false, false, false, false]) (x := 1) (y := 4) (by kernel_rfl) rfl rfl rfl rfl ?_ ?_
    all_goals
      intro K hK
      go_simp
      refine hK _ _ ?_
      clear hK K
      walk_nrm
    all_goals first
      | refine anyL_two (l := #[false, false, false, false, true, true, false, false, false]) (x := 0) (y := 6) (by kernel_rfl) rfl rfl rfl rfl ?_ ?_
      | refine anyL_two (l := #[true, false, false, false, true, false, false, false, false]) (x := 1) (y := 5) (by kernel_rfl) rfl rfl rfl rfl ?_ ?_
      | refine anyL_two (l := #[true, true, false, false, false, false, false, false, false]) (x := 2) (y := 4) (by kernel_rfl) rfl rfl rfl rfl ?_ ?_
    all_goals
      intro K hK
      go_simp
      refine hK _ _ ?_
      clear hK K
      walk_nrm
    all_goals first
      | refine anyL_two (l := #[false, false, false, false, true, true, true, false, false]) (x := 0) (y := 7) (by kernel_rfl) rfl rfl rfl rfl ?_ ?_
      | refine anyL_two (l := #[true, false, false, false, true, true, false, false, false]) (x := 1) (y := 6) (by kernel_rfl) rfl rfl rfl rfl ?_ ?_
      | refine anyL_two (l := #[true, true, false, false, true, false, false, false, false]) (x := 2) (y := 5) (by kernel_rfl) rfl rfl rfl rfl ?_ ?_
      | refine anyL_two (l := #[true, true, true, false, false, false, false, false, false]) (x := 3) (y := 4) (by kernel_rfl) rfl rfl rfl rfl ?_ ?_
    all_goals
      intro K hK
      go_simp
      refine hK _ _ ?_
      clear hK K
      walk_nrm
    all_goals first
      | refine anyL_one (l := #[false, false, false, false, true, true, true, true, false]) (x := 0) (by kernel_rfl) rfl rfl ?_
      | refine anyL_two (l := #[true, false, false, false, true, true, true, false, false]) (x := 1) (y := 7) (by kernel_rfl) rfl rfl rfl rfl ?_ ?_
      | refine anyL_two (l := #[true, true, false, false, true, true, false, false, false]) (x := 2) (y := 6) (by kernel_rfl) rfl rfl rfl rfl ?_ ?_
      | refine anyL_two (l := #[true, true, true, false, true, false, false, false, false]) (x := 3) (y := 5) (by kernel_rfl) rfl rfl rfl rfl ?_ ?_
      | refine anyL_one (l := #[true, true, true, true, false, false, false, false, false]) (x := 4) (by kernel_rfl) rfl rfl ?_
    all_goals
      intro K hK
      go_simp
      refine hK _ _ ?_
      clear hK K
      walk_nrm
    all_goals first
      | refine anyL_one (l := #[true, false, false, false, true, true, true, true, false]) (x := 1) (by kernel_rfl) rfl rfl ?_
      | refine anyL_two (l := #[true, true, false, false, true, true, true, false, false]) (x := 2) (y := 7) (by kernel_rfl) rfl rfl rfl rfl ?_ ?_
      | refine anyL_two (l := #[true, true, true, false, true, true, false, false, false]) (x := 3) (y := 6) (by kernel_rfl) rfl rfl rfl rfl ?_ ?_
      | refine anyL_one (l := #[true, true, true, true, true, false, false, false, false]) (x := 5) (by kernel_rfl) rfl rfl ?_
    all_goals
      intro K hK
      go_simp
      refine hK _ _ ?_
      clear hK K
      walk_nrm
    all_goals first
      | refine anyL_one (l := #[true, true, false, false, true, true, true, true, false]) (x := 2) (by kernel_rfl) rfl rfl ?_
      | refine anyL_two (l := #[true, true, true, false, true, true, true, false, false]) (x := 3) (y := 7) (by kernel_rfl) rfl rfl rfl rfl ?_ ?_
      | refine anyL_one (l := #[true, true, true, true, true, true, false, false, false]) (x := 6) (by kernel_rfl) rfl rfl ?_
    all_goals
      intro K hK
      go_simp
      refine hK _ _ ?_
      clear hK K
      walk_nrm
    all_goals first
      | refine anyL_one (l := #[true, true, true, false, true, true, true, true, false]) (x := 3) (by kernel_rfl) rfl rfl ?_
      | refine anyL_one (l := #[true, true, true, true, true, true, true, false, false]) (x := 7) (by kernel_rfl) rfl rfl ?_
    all_goals
      intro K hK
      go_simp
      refine hK _ _ ?_
      clear hK K
      walk_nrm
    all_goals exact .inl ⟨by kernel_rfl, by kernel_rfl, rfl, rfl⟩
  · rintro a ww ⟨rfl, rfl⟩
    refine LoneTo.step (step_lone_send_room (c := c) (cap := k) (buf := nums ids) (s := s) (r := r) (tm := false) (stepG_comm (cases := #[scase c (.int .i64 i) (.tuple #[])]) (blocking := true) (shape := .send) (w' := w1.drewN 1) rfl rfl (by decide) (by simp [execOp, scase, Act.eval, endT])) hb2 (by rw [nums_size]; exact hk)) ?_
    rw [Frame.finish_at, nums_push]
    have hw1 : Ch [c, bt] w ((w1.drewN 1).setChan c k (nums (ids ++ [i])) false (s + 1) r false) := (hch.drewN 1).setChan (by simp) _ _ _ _ _ _
    have hw2 : ((w1.drewN 1).setChan c k (nums (ids ++ [i])) false (s + 1) r false).heap[c]? = some (chanB k (ids ++ [i]) (s + 1) r) := heap_setChan _ _ _ _ _ _ _ _ (lt_of_some hb2)
    have hw3 : ((w1.drewN 1).setChan c k (nums (ids ++ [i])) false (s + 1) r false).heap.size = w.heap.size := (size_setChan ..).trans hsz
    have hw4 : ((w1.drewN 1).setChan c k (nums (ids ++ [i])) false (s + 1) r false).heap[bt]? = some (tokB bp i false) := ((Ch.refl [c] (w1.drewN 1)).setChan (by simp) _ _ _ _ _ _).some hb1 (by simpa using (ne_of_objs hb1 hb2 (by unfold chanB tokB; simp)))
    generalize (w1.drewN 1).setChan c k (nums (ids ++ [i])) false (s + 1) r false = w3 at *
    simp only [endT]
    walk_nrm
    refine LoneTo.goes (n := 100) ?_
    repeat (first | s_c stepG_seq | s_c stepG_skip | s_reg | s_c stepG_region_end | s_c stepG_block | s_cond true | s_cond false | s_c stepG_ret' | s_op)
    s_stop
    exact LoneTo.done ⟨.returned (.int .i64 0), _, rfl, ⟨rfl, hw3, hw1, hw2, hw4⟩, rfl, rfl, rfl, rfl, _, Try.func12, by simp [results, Try.f12, Frame.at]⟩
end Go.Proofs.Ytppakcijcjgoiaa
