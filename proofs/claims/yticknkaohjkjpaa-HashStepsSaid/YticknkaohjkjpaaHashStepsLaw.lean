/- The statement 'HashSteps' (sectimelaw02): for every input that can be read as data the call returns true, and each argument reads behind it as it did before. This text is the frame round the walk (HsC). -/
import Derived.Test.YticknkaohjkjpaaRows
import Derived.Test.YticknkaohjkjpaaHsC
import Derived.Test.YticknkaohjkjpaaOpenT
namespace Go.Proofs.Yticknkaohjkjpaa.hashSteps
open Go.ChangeShapes Go.WideShapes Go.ChangeAt Go.RowKit
open Go.ChangeMaps (open_string shut_string)
set_option linter.unusedVariables false

theorem own : ownKnob Try.prog.godebug = none := by kernel_rfl
theorem laidOut : laidOutB Try.prog = true := by kernel_rfl

set_option maxRecDepth 100000 in
theorem lifted (os : Os) (started : os.Started) (H : Type) (enc : TypeId × Value → H) :
    ReturnsInHanded {} Try.checked os 11 .any (Rows.hashStepsSpec.pre6 enc Try.prog Try.f11 Rows.hashStepsRow.domain false) (Rows.hashStepsSpec.post enc Try.prog Try.f11 false true false false) := by
  refine returnsInHanded_of_change (C := Try.checked) own started (by kernel_rfl) Try.func11
    (ChangeSpec.witness6 (enc := enc) (C := Try.checked) false ⟨#[], #[.agg #[.slice none 0 0, .slice none 0 0, .int .i64 0], .slice none 0 0], []⟩ 8 (by kernel_rfl) (by kernel_rfl) (by kernel_rfl) (by kernel_rfl)) ?_
  intro W base args ds gs before hval0 hW hcnd _
  have hval : ∀ (j : Nat) t v, Try.f11.params[j]? = some t → args[j]? = some v → Value.okWide Try.prog W .any base t v := hval0
  have hW' := hW
  obtain ⟨p, q, hA0, hV, rfl, hfz, hnd⟩ := hW
  have hA : DataW.TrodAll enc Try.prog W 0 (fun _ => true) true Try.f11.params.toList args.toList ds p := hA0
  rw [Try.params11] at hA hval
  obtain ⟨v0, vs0, d0, ds0, p0, q0, hargs, rfl, rfl, h0, r0⟩ := trodAll_cons hA
  obtain ⟨v1, vs1, d1, ds1, p1, q1, rfl, rfl, rfl, h1, r1⟩ := trodAll_cons r0
  obtain ⟨rfl, rfl, rfl⟩ := trodAll_nil r1
  obtain rfl : args = #[v0, v1] := by cases args; simp_all
  obtain ⟨rfl, rfl⟩ := trodVars_none hV
  have k0 := h0
  have lt0 : ∀ x ∈ p0, x.block < W.heap.size := by obtain ⟨m, hm⟩ := k0; exact DataW.trod_lt m _ _ _ hm
  have k1 := h1
  have lt1 : ∀ x ∈ p1, x.block < W.heap.size := by obtain ⟨m, hm⟩ := k1; exact DataW.trod_lt m _ _ _ hm
  obtain ⟨cs0, rfl, hl0, hf0⟩ := open_struct Try.underlying47 (hval 0 47 v0 rfl rfl) h0
  rw [show Try.prog.cellsOf 47 = 3 from by kernel_rfl] at hl0
  obtain ⟨A0_0, n0_0, c0_0, l0_0, e0_0, b0_0⟩ := hf0.nums (i := 0) (o := 0) rfl rfl Try.underlying45 Try.underlying59 (by kernel_rfl) (by kernel_rfl)
  obtain ⟨A0_1, n0_1, c0_1, l0_1, e0_1, b0_1⟩ := hf0.bytes (i := 1) (o := 1) rfl rfl Try.underlying22 Try.underlying5 (by kernel_rfl) (by kernel_rfl)
  obtain ⟨a0_2, e0_2, w0_2⟩ := hf0.int (i := 2) (o := 2) rfl rfl Try.underlying3 (by kernel_rfl)
  rcases cs0 with _ | ⟨y0_0, _ | ⟨y0_1, _ | ⟨y0_2, _ | ⟨zz, zr⟩⟩⟩⟩ <;> simp only [List.length_nil, List.length_cons] at hl0 <;> try omega
  simp only [List.drop_succ_cons, List.drop_zero, List.take_succ_cons, List.take_zero, List.cons.injEq, and_true] at e0_0 e0_1 e0_2
  subst e0_0 e0_1 e0_2
  obtain ⟨A1, n1, c1, l1, rfl, b1⟩ := open_bytes Try.underlying22 Try.underlying5 (by kernel_rfl) (hval 1 22 v1 rfl rfl) h1
  clear hA0 hval0
  refine (hashSteps_walk A0_0 n0_0 c0_0 l0_0 A0_1 n0_1 c0_1 l0_1 a0_2 A1 n1 c1 l1 W b0_0 b0_1 b1).mono fun e W' ⟨he, bel⟩ => ?_
  subst he
  exact ⟨_, rfl, _, _, _, [], _, [], hW', trodAll_mk1 (shut_bool Try.underlying4 _), (trodAll_cons_mk (Below.trod laidOut (by kernel_rfl) (of_decide_eq_true (by kernel_rfl)) k0 bel lt0) (trodAll_cons_mk (Below.trod laidOut (by kernel_rfl) (of_decide_eq_true (by kernel_rfl)) k1 bel lt1) trodAll_mk0)), rfl, bel.frame _, fun h => by cases h⟩

theorem over : Rows.hashStepsRow.holds Try.pinned (OpenSpec.ofChange Rows.hashStepsSpec) :=
  OpenClaim.holds_of_wide 11 Try.f11 rfl rfl rfl rfl rfl rfl rfl ⟨rfl, rfl, rfl, rfl, rfl⟩ rfl rfl rfl rfl rfl (by kernel_rfl) Try.func11 (by kernel_rfl)
    (of_decide_eq_true (by kernel_rfl)) (by unfold Func.isWrapper; first | (rw [if_pos (by decide +kernel)]; kernel_rfl) | (rw [if_neg (by decide +kernel)]; exact ⟨rfl, rfl⟩))
    (fun os started H enc _ => lifted os started H enc)

/-- The statement. -/
theorem proved : Rows.HashStepsSaid := over
#print axioms proved
end Go.Proofs.Yticknkaohjkjpaa.hashSteps
