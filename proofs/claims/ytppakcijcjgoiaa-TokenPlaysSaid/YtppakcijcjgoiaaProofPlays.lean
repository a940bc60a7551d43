/-
  The law TokenPlays is proved: at every input the call returns true and the input reads as it did; no condition.
-/
import Derived.Test.YtppakcijcjgoiaaPlays
import Derived.Test.YtppakcijcjgoiaaOpen
import Derived.WalkKit
import Derived.ProofKit
import Derived.OpenShut
import Derived.ShutString
import Derived.SizedLaws
import Derived.Lib.SmallJoins
namespace Go.Proofs.Ytppakcijcjgoiaa.tokenPlays
open Go.ChangeShapes Go.WideShapes Go.ChangeAt Go.RowKit Go.Joins
open Go.ChangeMaps (open_string shut_string)
set_option linter.unusedVariables false

theorem own : ownKnob Try.prog.godebug = none := by kernel_rfl
theorem laidOut : laidOutB Try.prog = true := by kernel_rfl
theorem cells5 : Try.prog.cellsOf 5 = 1 := by kernel_rfl
theorem cells22 : Try.prog.cellsOf 22 = 1 := by kernel_rfl

set_option maxRecDepth 100000 in
theorem lifted (os : Os) (started : os.Started) (H : Type) (enc : TypeId × Value → H) :
    ReturnsInHanded {} Try.checked os 6 .any (Rows.tokenPlaysSpec.pre6 enc Try.prog Try.f6 Rows.tokenPlaysRow.domain false) (Rows.tokenPlaysSpec.post enc Try.prog Try.f6 false true false false) := by
  refine returnsInHanded_of_change_sized (C := Try.checked) own started (by kernel_rfl) Try.func6
    (ChangeSpec.witness6 (enc := enc) (C := Try.checked) false ⟨#[], #[.int .u8 0, .slice none 0 0], []⟩ 8 (by kernel_rfl) (by kernel_rfl) (by kernel_rfl) (by kernel_rfl)) ?_
  intro W base args ds gs before hval0 hW _ hsz0 _
  have hsz : (DataW.weightsEach Try.prog (Try.f6.params.toList ++ Rows.tokenPlaysSpec.plain.varTypes Try.prog) (ds ++ gs)).all (· ≤ reachBytes) = true := hsz0
  clear hsz0
  have hval : ∀ (j : Nat) t v, Try.f6.params[j]? = some t → args[j]? = some v → Value.okWide Try.prog W .any base t v := hval0
  have hW' := hW
  obtain ⟨p, q, hA0, hV, rfl, _, _⟩ := hW
  have hA : DataW.TrodAll enc Try.prog W 0 (fun _ => true) true Try.f6.params.toList args.toList ds p := hA0
  rw [Try.params6] at hA hval hsz
  obtain ⟨v0, vs0, d0, ds0, p0, q0, hargs, rfl, rfl, h0, r0⟩ := trodAll_cons hA
  obtain ⟨v1, vs1, d1, ds1, p1, q1, rfl, rfl, rfl, h1, r1⟩ := trodAll_cons r0
  obtain ⟨rfl, rfl, rfl⟩ := trodAll_nil r1
  obtain rfl : args = #[v0, v1] := by cases args; simp_all
  obtain ⟨rfl, rfl⟩ := trodVars_none hV
  clear hA0 hval0
  simp only [List.append_nil] at hW'
  have hl0 : ∀ x ∈ p0, x.block < W.heap.size := fun x hx => by simpa using hW'.lt x (by simp [hx])
  have hl1 : ∀ x ∈ p1, x.block < W.heap.size := fun x hx => by simpa using hW'.lt x (by simp [hx])
  have h0k := h0
  have h1k := h1
  obtain ⟨a0, rfl, hd0, hp0, wa0⟩ := open_int Try.underlying5 (hval 0 5 v0 rfl rfl) h0
  have fin : ∀ (W' : World), Below W.heap.size W W' → ∀ e : Ending, e = .returned (.bool true) → ∃ v, e = Ending.returned v ∧ Rows.tokenPlaysSpec.post enc Try.checked.prog Try.f6 false true false false W _ v W' := fun W' hg e he =>
    ⟨_, he, _, _, _, [], (p0 ++ (p1 ++ [])), [], hW', trodAll_mk1 (shut_bool Try.underlying4 true), (trodAll_cons_mk (Below.trod laidOut (by kernel_rfl) (of_decide_eq_true (by kernel_rfl)) h0k hg hl0) (trodAll_cons_mk (Below.trod laidOut (by kernel_rfl) (of_decide_eq_true (by kernel_rfl)) h1k hg hl1) trodAll_mk0)), rfl, hg.frame _, fun h => by cases h⟩
  obtain ⟨n, rfl, hn⟩ := nat_u8 a0 wa0
  obtain ⟨ad, len, cap, rfl⟩ := okWide_slice Try.underlying22 (hval 1 22 v1 rfl rfl)
  obtain ⟨fuel, hf⟩ := h1
  rcases open_u8s Try.underlying22 Try.underlying5 cells5 hf with hcs | ⟨a, len', cap', hcs, hcell⟩
  · simp [Value.cells] at hcs
    obtain ⟨rfl, rfl, rfl⟩ := hcs
    exact (plays_walk n 0 0 0 0 none W hn (by simp) (by simp) (by simp)).mono fun e W' ⟨he, hg⟩ => fin W' hg e he
  · simp [Value.cells] at hcs
    obtain ⟨rfl, rfl, rfl⟩ := hcs
    obtain ⟨b, off, spot⟩ := a
    refine (plays_walk n b off len cap _ W hn (fun h0 => ?_) (fun h0 => ?_) (fun j hj => ?_)).mono fun e W' ⟨he, hg⟩ => fin W' hg e he
    · obtain ⟨z, hz, _⟩ := hcell 0 h0
      have hspot : spot = none := by simpa [Addr.add] using World.cell?_spot hz
      rw [hspot]
    · obtain ⟨z, hz, _⟩ := hcell 0 h0
      simpa [Addr.add] using World.block_lt_of_cell? W _ hz
    · obtain ⟨z0, hz0, _⟩ := hcell 0 (by omega)
      have hspot : spot = none := by simpa [Addr.add] using World.cell?_spot hz0
      obtain ⟨z, hz, hw⟩ := hcell j hj
      subst hspot
      obtain ⟨x, rfl, hx⟩ := nat_u8 z hw
      exact ⟨x, hx, by rw [← add_plain]; exact hz⟩

theorem over : Rows.tokenPlaysRow.holds Try.pinned (OpenSpec.ofChange Rows.tokenPlaysSpec) :=
  OpenClaim.holds_of_wide 6 Try.f6 rfl rfl rfl rfl rfl rfl rfl ⟨rfl, rfl, rfl, rfl, rfl⟩ rfl rfl rfl rfl rfl (by kernel_rfl) Try.func6 (by kernel_rfl)
    (of_decide_eq_true (by kernel_rfl)) (by unfold Func.isWrapper; first | (rw [if_pos (by decide +kernel)]; kernel_rfl) | (rw [if_neg (by decide +kernel)]; exact ⟨rfl, rfl⟩))
    (fun os started H enc _ => lifted os started H enc)

/-- the statement -/
theorem proved : Rows.TokenPlaysSaid :=
  over
#print axioms proved
end Go.Proofs.Ytppakcijcjgoiaa.tokenPlays
