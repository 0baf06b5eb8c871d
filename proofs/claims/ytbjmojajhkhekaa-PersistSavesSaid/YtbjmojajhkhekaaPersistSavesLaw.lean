/- The statement 'PersistSaves' (sectimelaw39): for every input that can be read as data the call returns true, and each argument reads behind it as it did before. This text is the frame round the walk (PsF). -/
import Derived.Test.YtbjmojajhkhekaaRows
import Derived.Test.YtbjmojajhkhekaaPsF
import Derived.Test.YtbjmojajhkhekaaOpenS
namespace Go.Proofs.Ytbjmojajhkhekaa.persistSaves
open Go.ChangeShapes Go.WideShapes Go.ChangeAt Go.RowKit
open Go.ChangeMaps (open_string shut_string)
set_option linter.unusedVariables false

theorem own : ownKnob Try.prog.godebug = none := by kernel_rfl
theorem laidOut : laidOutB Try.prog = true := by kernel_rfl

set_option maxRecDepth 100000 in
theorem lifted (os : Os) (started : os.Started) (H : Type) (enc : TypeId × Value → H) :
    ReturnsInHanded {} Try.checked os 4 .any (Rows.persistSavesSpec.pre6 enc Try.prog Try.f4 Rows.persistSavesRow.domain false) (Rows.persistSavesSpec.post enc Try.prog Try.f4 false true false false) := by
  refine returnsInHanded_of_change (C := Try.checked) own started (by kernel_rfl) Try.func4
    (ChangeSpec.witness6 (enc := enc) (C := Try.checked) false ⟨#[], #[.agg #[.int .i64 0, .int .i64 0, .int .i64 0, .int .i64 0, .int .i64 0, .int .i64 0, .int .i64 0]], []⟩ 8 (by kernel_rfl) (by kernel_rfl) (by kernel_rfl) (by kernel_rfl)) ?_
  intro W base args ds gs before hval0 hW hcnd _
  have hval : ∀ (j : Nat) t v, Try.f4.params[j]? = some t → args[j]? = some v → Value.okWide Try.prog W .any base t v := hval0
  have hW' := hW
  obtain ⟨p, q, hA0, hV, rfl, hfz, hnd⟩ := hW
  have hA : DataW.TrodAll enc Try.prog W 0 (fun _ => true) true Try.f4.params.toList args.toList ds p := hA0
  rw [Try.params4] at hA hval
  obtain ⟨v0, vs0, d0, ds0, p0, q0, hargs, rfl, rfl, h0, r0⟩ := trodAll_cons hA
  obtain ⟨rfl, rfl, rfl⟩ := trodAll_nil r0
  obtain rfl : args = #[v0] := by cases args; simp_all
  obtain ⟨rfl, rfl⟩ := trodVars_none hV
  have k0 := h0
  have lt0 : ∀ x ∈ p0, x.block < W.heap.size := by obtain ⟨m, hm⟩ := k0; exact DataW.trod_lt m _ _ _ hm
  obtain ⟨cs0, rfl, hl0, hf0⟩ := open_struct Try.underlying41 (hval 0 41 v0 rfl rfl) h0
  rw [show Try.prog.cellsOf 41 = 7 from by kernel_rfl] at hl0
  obtain ⟨a0_0, e0_0, w0_0⟩ := hf0.int (i := 0) (o := 0) rfl rfl Try.underlying3 (by kernel_rfl)
  have hf0_1 := hf0.struct (i := 1) (o := 1) rfl rfl (m := 6) (by kernel_rfl) Try.underlying39
  obtain ⟨a0_1, e0_1, w0_1⟩ := hf0_1.int (i := 0) (o := 0) rfl rfl Try.underlying3 (by kernel_rfl)
  have hf0_1_1 := hf0_1.struct (i := 1) (o := 1) rfl rfl (m := 2) (by kernel_rfl) Try.underlying37
  obtain ⟨a0_2, e0_2, w0_2⟩ := hf0_1_1.int (i := 0) (o := 0) rfl rfl Try.underlying3 (by kernel_rfl)
  obtain ⟨a0_3, e0_3, w0_3⟩ := hf0_1_1.int (i := 1) (o := 1) rfl rfl Try.underlying3 (by kernel_rfl)
  obtain ⟨a0_4, e0_4, w0_4⟩ := hf0_1.int (i := 2) (o := 3) rfl rfl Try.underlying3 (by kernel_rfl)
  obtain ⟨a0_5, e0_5, w0_5⟩ := hf0_1.int (i := 3) (o := 4) rfl rfl Try.underlying3 (by kernel_rfl)
  obtain ⟨a0_6, e0_6, w0_6⟩ := hf0_1.int (i := 4) (o := 5) rfl rfl Try.underlying3 (by kernel_rfl)
  rcases cs0 with _ | ⟨y0_0, _ | ⟨y0_1, _ | ⟨y0_2, _ | ⟨y0_3, _ | ⟨y0_4, _ | ⟨y0_5, _ | ⟨y0_6, _ | ⟨zz, zr⟩⟩⟩⟩⟩⟩⟩⟩ <;> simp only [List.length_nil, List.length_cons] at hl0 <;> try omega
  simp only [List.drop_succ_cons, List.drop_zero, List.take_succ_cons, List.take_zero, List.cons.injEq, and_true] at e0_0 e0_1 e0_2 e0_3 e0_4 e0_5 e0_6
  subst e0_0 e0_1 e0_2 e0_3 e0_4 e0_5 e0_6
  clear hA0 hval0
  refine (persistSaves_walk a0_0 a0_1 a0_2 a0_3 a0_4 a0_5 a0_6 w0_0 w0_1 w0_2 w0_3 w0_4 w0_5 w0_6 W).mono fun e W' ⟨he, bel⟩ => ?_
  subst he
  exact ⟨_, rfl, _, _, _, [], _, [], hW', trodAll_mk1 (shut_bool Try.underlying4 _), (trodAll_cons_mk (Below.trod laidOut (by kernel_rfl) (of_decide_eq_true (by kernel_rfl)) k0 bel lt0) trodAll_mk0), rfl, bel.frame _, fun h => by cases h⟩

theorem over : Rows.persistSavesRow.holds Try.pinned (OpenSpec.ofChange Rows.persistSavesSpec) :=
  OpenClaim.holds_of_wide 4 Try.f4 rfl rfl rfl rfl rfl rfl rfl ⟨rfl, rfl, rfl, rfl, rfl⟩ rfl rfl rfl rfl rfl (by kernel_rfl) Try.func4 (by kernel_rfl)
    (of_decide_eq_true (by kernel_rfl)) (by unfold Func.isWrapper; first | (rw [if_pos (by decide +kernel)]; kernel_rfl) | (rw [if_neg (by decide +kernel)]; exact ⟨rfl, rfl⟩))
    (fun os started H enc _ => lifted os started H enc)

/-- The statement. -/
theorem proved : Rows.PersistSavesSaid := over
#print axioms proved
end Go.Proofs.Ytbjmojajhkhekaa.persistSaves
