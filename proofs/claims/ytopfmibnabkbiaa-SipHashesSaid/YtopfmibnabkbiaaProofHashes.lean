/-
  The law SipHashes is proved: at every input the call returns true and the input reads as it did; no condition.
-/
import Derived.Test.YtopfmibnabkbiaaHashes
import Derived.WalkKit
import Derived.ProofKit
import Derived.OpenShut
import Derived.ShutString
import Derived.SizedLaws
import Derived.Lib.SmallJoins
namespace Go.Proofs.Ytopfmibnabkbiaa.sipHashes
open Go.ChangeShapes Go.WideShapes Go.ChangeAt Go.RowKit Go.Joins
open Go.ChangeMaps (open_string shut_string)
set_option linter.unusedVariables false

theorem own : ownKnob Try.prog.godebug = none := by kernel_rfl
theorem laidOut : laidOutB Try.prog = true := by kernel_rfl
theorem cells24 : Try.prog.cellsOf 24 = 2 := by kernel_rfl
theorem cells22 : Try.prog.cellsOf 22 = 1 := by kernel_rfl
theorem cells5 : Try.prog.cellsOf 5 = 1 := by kernel_rfl
theorem bytes5 : Try.prog.bytesOf 5 = 1 := by kernel_rfl
theorem cells33 : Try.prog.cellsOf 33 = 3 := by kernel_rfl
theorem cells9 : Try.prog.cellsOf 9 = 1 := by kernel_rfl
theorem cells30 : Try.prog.cellsOf 30 = 1 := by kernel_rfl

set_option maxRecDepth 100000 in
theorem lifted (os : Os) (started : os.Started) (H : Type) (enc : TypeId × Value → H) :
    ReturnsInHanded {} Try.checked os 6 .any (Rows.sipHashesSpec.pre6 enc Try.prog Try.f6 Rows.sipHashesRow.domain false) (Rows.sipHashesSpec.post enc Try.prog Try.f6 false true false false) := by
  refine returnsInHanded_of_change_sized (C := Try.checked) own started (by kernel_rfl) Try.func6
    (ChangeSpec.witness6 (enc := enc) (C := Try.checked) false ⟨#[], #[.agg #[.int .u64 0, .int .u64 0, .int .u64 0], .string ByteArray.empty, .slice none 0 0], []⟩ 8 (by kernel_rfl) (by kernel_rfl) (by kernel_rfl) (by kernel_rfl)) ?_
  intro W base args ds gs before hval0 hW _ hsz0 _
  have hsz : (DataW.weightsEach Try.prog (Try.f6.params.toList ++ Rows.sipHashesSpec.plain.varTypes Try.prog) (ds ++ gs)).all (· ≤ reachBytes) = true := hsz0
  clear hsz0
  have hval : ∀ (j : Nat) t v, Try.f6.params[j]? = some t → args[j]? = some v → Value.okWide Try.prog W .any base t v := hval0
  have hW' := hW
  obtain ⟨p, q, hA0, hV, rfl, _, _⟩ := hW
  have hA : DataW.TrodAll enc Try.prog W 0 (fun _ => true) true Try.f6.params.toList args.toList ds p := hA0
  rw [Try.params6] at hA hval hsz
  obtain ⟨v0, vs0, d0, ds0, p0, q0, hargs, rfl, rfl, h0, r0⟩ := trodAll_cons hA
  obtain ⟨v1, vs1, d1, ds1, p1, q1, rfl, rfl, rfl, h1, r1⟩ := trodAll_cons r0
  obtain ⟨v2, vs2, d2, ds2, p2, q2, rfl, rfl, rfl, h2, r2⟩ := trodAll_cons r1
  obtain ⟨rfl, rfl, rfl⟩ := trodAll_nil r2
  obtain rfl : args = #[v0, v1, v2] := by cases args; simp_all
  obtain ⟨rfl, rfl⟩ := trodVars_none hV
  clear hA0 hval0
  simp only [List.append_nil] at hW'
  have hl0 : ∀ x ∈ p0, x.block < W.heap.size := fun x hx => by simpa using hW'.lt x (by simp [hx])
  have hl1 : ∀ x ∈ p1, x.block < W.heap.size := fun x hx => by simpa using hW'.lt x (by simp [hx])
  have hl2 : ∀ x ∈ p2, x.block < W.heap.size := fun x hx => by simpa using hW'.lt x (by simp [hx])
  have h0k := h0
  have h1k := h1
  have h2k := h2
  obtain ⟨s1, rfl, hd1, hp1, ws1⟩ := open_string Try.underlying9 (hval 1 9 v1 rfl rfl) h1
  have fin : ∀ (W' : World), Below W.heap.size W W' → ∀ e : Ending, e = .returned (.bool true) → ∃ v, e = Ending.returned v ∧ Rows.sipHashesSpec.post enc Try.checked.prog Try.f6 false true false false W _ v W' := fun W' hg e he =>
    ⟨_, he, _, _, _, [], (p0 ++ (p1 ++ (p2 ++ []))), [], hW', trodAll_mk1 (shut_bool Try.underlying4 true), (trodAll_cons_mk (Below.trod laidOut (by kernel_rfl) (of_decide_eq_true (by kernel_rfl)) h0k hg hl0) (trodAll_cons_mk (Below.trod laidOut (by kernel_rfl) (of_decide_eq_true (by kernel_rfl)) h1k hg hl1) (trodAll_cons_mk (Below.trod laidOut (by kernel_rfl) (of_decide_eq_true (by kernel_rfl)) h2k hg hl2) trodAll_mk0))), rfl, hg.frame _, fun h => by cases h⟩
  obtain ⟨cs0, rfl, hsz0⟩ := okWide_struct Try.underlying33 (hval 0 33 v0 rfl rfl)
  obtain ⟨c00, c01, c02, rfl⟩ := array3 (hsz0.trans cells33)
  obtain ⟨fuel0, hf0⟩ := h0
  obtain ⟨y0, y1, m0, hx0, _, k0, k1⟩ := trod_struct2 Try.underlying33 hf0
  obtain ⟨z0, z1, m1, hx1, _, j0, j1⟩ := trod_struct2 Try.underlying24 k0
  obtain ⟨a00, e00, _, wa00⟩ := DataW.trod_int Try.underlying22 j0
  obtain ⟨a01, e01, _, wa01⟩ := DataW.trod_int Try.underlying22 j1
  obtain ⟨a02, e02, _, wa02⟩ := DataW.trod_int Try.underlying22 k1
  simp [Value.cells, cells24, cells22] at e00 e01 e02
  subst e00 e01 e02
  obtain ⟨x0, rfl⟩ := nu_of a00 wa00
  obtain ⟨x1, rfl⟩ := nu_of a01 wa01
  obtain ⟨x2, rfl⟩ := nu_of a02 wa02
  obtain ⟨a2, len, cap, rfl⟩ := okWide_slice Try.underlying30 (hval 2 30 v2 rfl rfl)
  obtain ⟨fuel2, hf2⟩ := h2
  have hbad : len ≠ 16 → len ≤ 140737488355328 → Calls Try.checked.prog 6 #[.agg #[.int .u64 (nu x0), .int .u64 (nu x1), .int .u64 (nu x2)], .string s1, .slice a2 len cap] W fun e W' => ∃ v, e = Ending.returned v ∧ Rows.sipHashesSpec.post enc Try.checked.prog Try.f6 false true false false W #[.agg #[.int .u64 (nu x0), .int .u64 (nu x1), .int .u64 (nu x2)], .string s1, .slice a2 len cap] v W' := fun hne hle =>
    (hashes_bad x0 x1 x2 s1 a2 len cap W hne hle).mono fun e W' ⟨he, hg⟩ => fin W' hg e he
  rcases open_ints Try.underlying30 Try.underlying5 cells5 hf2 with ⟨hcs, hx⟩ | ⟨a, len', cap', zs, hcs, _, hl, hm, hz, hx, hcell, hwz⟩
  · simp [Value.cells] at hcs
    obtain ⟨rfl, rfl, rfl⟩ := hcs
    exact hbad (by decide) (by decide)
  · simp [Value.cells] at hcs
    obtain ⟨rfl, rfl, rfl⟩ := hcs
    simp only [Prod.mk.injEq] at hx
    obtain ⟨hd2, hp2⟩ := hx
    simp only [if_true] at hz
    by_cases h16 : len = 16
    · subst h16
      obtain ⟨b, off, spot⟩ := a
      have hspot : spot = none := by simpa [Addr.add] using World.cell?_spot (hcell 0 (by omega))
      subst hspot
      have hbW : b < W.heap.size := hl2 (.cell b off) (by rw [hp2]; exact MemPlace.mem_row.2 ⟨0, by omega, by simp⟩)
      have hbyte : ∀ j, j < zs.length → ((UInt8.ofNat (zs.getD j 0).toNat).toNat : Int) = zs.getD j 0 := fun j hj => by
        have hmem : zs.getD j 0 ∈ zs := by rw [List.getD_eq_getElem?_getD, List.getElem?_eq_getElem hj]; exact List.getElem_mem hj
        obtain ⟨x, hx, hx2⟩ := nat_u8 _ (hwz _ hmem)
        rw [hx, Int.toNat_natCast, UInt8.toNat_ofNat_of_lt' (by exact hx2)]
      refine (hashes_16 x0 x1 x2 s1 b off cap ((zs.take 16).map fun z => UInt8.ofNat z.toNat) W hbW (by simp; omega) (by omega) (fun j hj => ?_)).mono fun e W' ⟨he, hg⟩ => fin W' hg e he
      have hj' : j < zs.length := by simp at hj; omega
      have h1 := hcell j hj'
      rw [add_plain] at h1
      rw [h1]
      have h2 := hbyte j hj'
      rw [List.getD_eq_getElem?_getD, List.getElem?_eq_getElem hj'] at h2 ⊢
      simp only [Option.getD_some] at h2 ⊢
      simp only [List.getElem_map, List.getElem_take, h2]
    · refine hbad h16 ?_
      have := sized_slice hsz (j := 2) (t := 30) (e := 5) rfl (by rw [hd2]; rfl) Try.underlying30
      rw [bytes5] at this
      simp only [lits, List.length_map, List.length_take, List.length_drop, reachBytes] at this
      omega

theorem over : Rows.sipHashesRow.holds Try.pinned (OpenSpec.ofChange Rows.sipHashesSpec) :=
  OpenClaim.holds_of_wide 6 Try.f6 rfl rfl rfl rfl rfl rfl rfl ⟨rfl, rfl, rfl, rfl, rfl⟩ rfl rfl rfl rfl rfl (by kernel_rfl) Try.func6 (by kernel_rfl)
    (of_decide_eq_true (by kernel_rfl)) (by unfold Func.isWrapper; first | (rw [if_pos (by decide +kernel)]; kernel_rfl) | (rw [if_neg (by decide +kernel)]; exact ⟨rfl, rfl⟩))
    (fun os started H enc _ => lifted os started H enc)

/-- the statement -/
theorem proved : Rows.SipHashesSaid :=
  over
#print axioms proved
end Go.Proofs.Ytopfmibnabkbiaa.sipHashes
