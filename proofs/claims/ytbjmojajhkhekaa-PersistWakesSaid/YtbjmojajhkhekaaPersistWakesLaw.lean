/- The statement 'PersistWakes' (sectimelaw39): for every input that can be read as data the call returns true, and each argument reads behind it as it did before. This text is the frame round the walk (PsX). -/
import Derived.Test.YtbjmojajhkhekaaRows
import Derived.Test.YtbjmojajhkhekaaPsX
import Derived.Test.YtbjmojajhkhekaaOpenS
namespace Go.Proofs.Ytbjmojajhkhekaa.persistWakes
open Go.ChangeShapes Go.WideShapes Go.ChangeAt Go.RowKit
open Go.ChangeMaps (open_string shut_string)
set_option linter.unusedVariables false

theorem own : ownKnob Try.prog.godebug = none := by kernel_rfl
theorem laidOut : laidOutB Try.prog = true := by kernel_rfl

set_option maxRecDepth 100000 in
theorem lifted (os : Os) (started : os.Started) (H : Type) (enc : TypeId × Value → H) :
    ReturnsInHanded {} Try.checked os 11 .any (Rows.persistWakesSpec.pre6 enc Try.prog Try.f11 Rows.persistWakesRow.domain false) (Rows.persistWakesSpec.post enc Try.prog Try.f11 false true false false) := by
  refine returnsInHanded_of_change (C := Try.checked) own started (by kernel_rfl) Try.func11
    (ChangeSpec.witness6 (enc := enc) (C := Try.checked) false ⟨#[], #[.agg #[.int .i64 0, .int .i64 0, .int .i64 0, .int .i64 0, .int .i64 0, .int .i64 0, .int .i64 0], .agg #[.int .i64 0, .int .i64 0], .int .i64 0, .slice none 0 0], []⟩ 8 (by kernel_rfl) (by kernel_rfl) (by kernel_rfl) (by kernel_rfl)) ?_
  intro W base args ds gs before hval0 hW hcnd _
  have hval : ∀ (j : Nat) t v, Try.f11.params[j]? = some t → args[j]? = some v → Value.okWide Try.prog W .any base t v := hval0
  have hW' := hW
  obtain ⟨p, q, hA0, hV, rfl, hfz, hnd⟩ := hW
  have hA : DataW.TrodAll enc Try.prog W 0 (fun _ => true) true Try.f11.params.toList args.toList ds p := hA0
  rw [Try.params11] at hA hval
  obtain ⟨v0, vs0, d0, ds0, p0, q0, hargs, rfl, rfl, h0, r0⟩ := trodAll_cons hA
  obtain ⟨v1, vs1, d1, ds1, p1, q1, rfl, rfl, rfl, h1, r1⟩ := trodAll_cons r0
  obtain ⟨v2, vs2, d2, ds2, p2, q2, rfl, rfl, rfl, h2, r2⟩ := trodAll_cons r1
  obtain ⟨v3, vs3, d3, ds3, p3, q3, rfl, rfl, rfl, h3, r3⟩ := trodAll_cons r2
  obtain ⟨rfl, rfl, rfl⟩ := trodAll_nil r3
  obtain rfl : args = #[v0, v1, v2, v3] := by cases args; simp_all
  obtain ⟨rfl, rfl⟩ := trodVars_none hV
  have k0 := h0
  have lt0 : ∀ x ∈ p0, x.block < W.heap.size := by obtain ⟨m, hm⟩ := k0; exact DataW.trod_lt m _ _ _ hm
  have k1 := h1
  have lt1 : ∀ x ∈ p1, x.block < W.heap.size := by obtain ⟨m, hm⟩ := k1; exact DataW.trod_lt m _ _ _ hm
  have k2 := h2
  have lt2 : ∀ x ∈ p2, x.block < W.heap.size := by obtain ⟨m, hm⟩ := k2; exact DataW.trod_lt m _ _ _ hm
  have k3 := h3
  have lt3 : ∀ x ∈ p3, x.block < W.heap.size := by obtain ⟨m, hm⟩ := k3; exact DataW.trod_lt m _ _ _ hm
  obtain ⟨cs0, rfl, hl0, hf0⟩ := open_struct Try.underlying41 (hval 0 41 v0 rfl rfl) h0
  rw [show Try.prog.cellsOf 41 = 7 from by kernel_rfl] at hl0
  obtain ⟨a0_0, e0_0, w0_0⟩ := hf0.int (i := 0) (o := 0) rfl rfl Try.underlying3 (by kernel_rfl)
  have hf0_1 := hf0.struct (i := 1) (o := 1) rfl rfl (m := 6) (by kernel_rfl) Try.underlying39
  obtain ⟨a0_1, e0_1, w0_1⟩ := hf0_1.int (i := 0) (o := 0) rfl rfl Try.underlying3 (by kernel_rfl)
  have hf0_1_1 := hf0_1.struct (i := 1) (o := 1) rfl rfl (m := 2) (by kernel_rfl) Try.underlying37
  obtain ⟨a0_2, e0_2, w0_2⟩ := hf0_1_1.int (i := 0) (o := 0) rfl rfl Try.underlying3 (by kernel_rfl)
  obtain ⟨a0_3, e0_3, w0_3⟩ := hf0_1_1.int (i := 1) (o := 1) rfl rfl Try.underlying3 (by kernel_rfl)
  obtain ⟨a0_4, e0_4, w0_4⟩ := hf0_1.int (i := 2) (o := 3) rfl rfl Try.underlying3 (by kernel_rfl)
  obtain ⟨a0_5, e0_5, w0_5⟩ := hf0_1.int (i := 3) (o := 4) rfl rfl Try.underlying3 (by kernel_rfl)
  obtain ⟨a0_6, e0_6, w0_6⟩ := hf0_1.int (i := 4) (o := 5) rfl rfl Try.underlying3 (by kernel_rfl)
  rcases cs0 with _ | ⟨y0_0, _ | ⟨y0_1, _ | ⟨y0_2, _ | ⟨y0_3, _ | ⟨y0_4, _ | ⟨y0_5, _ | ⟨y0_6, _ | ⟨zz, zr⟩⟩⟩⟩⟩⟩⟩⟩ <;> simp only [List.length_nil, List.length_cons] at hl0 <;> try omega
  simp only [List.drop_succ_cons, List.drop_zero, List.take_succ_cons, List.take_zero, List.cons.injEq, and_true] at e0_0 e0_1 e0_2 e0_3 e0_4 e0_5 e0_6
  subst e0_0 e0_1 e0_2 e0_3 e0_4 e0_5 e0_6
  obtain ⟨cs1, rfl, hl1, hf1⟩ := open_struct Try.underlying37 (hval 1 37 v1 rfl rfl) h1
  rw [show Try.prog.cellsOf 37 = 2 from by kernel_rfl] at hl1
  obtain ⟨a1_0, e1_0, w1_0⟩ := hf1.int (i := 0) (o := 0) rfl rfl Try.underlying3 (by kernel_rfl)
  obtain ⟨a1_1, e1_1, w1_1⟩ := hf1.int (i := 1) (o := 1) rfl rfl Try.underlying3 (by kernel_rfl)
  rcases cs1 with _ | ⟨y1_0, _ | ⟨y1_1, _ | ⟨zz, zr⟩⟩⟩ <;> simp only [List.length_nil, List.length_cons] at hl1 <;> try omega
  simp only [List.drop_succ_cons, List.drop_zero, List.take_succ_cons, List.take_zero, List.cons.injEq, and_true] at e1_0 e1_1
  subst e1_0 e1_1
  obtain ⟨a2, rfl, rfl, rfl, w2⟩ := open_int Try.underlying3 (hval 2 3 v2 rfl rfl) h2
  obtain ⟨A3, n3, c3, l3, rfl, b3⟩ := open_nums Try.underlying23 Try.underlying3 (by kernel_rfl) (hval 3 23 v3 rfl rfl) h3
  clear hA0 hval0
  refine (persistWakes_walk a0_0 a0_1 a0_2 a0_3 a0_4 a0_5 a0_6 a1_0 a1_1 a2 A3 n3 c3 l3 W b3.1).mono fun e W' ⟨he, bel⟩ => ?_
  subst he
  exact ⟨_, rfl, _, _, _, [], _, [], hW', trodAll_mk1 (shut_bool Try.underlying4 _), (trodAll_cons_mk (Below.trod laidOut (by kernel_rfl) (of_decide_eq_true (by kernel_rfl)) k0 bel lt0) (trodAll_cons_mk (Below.trod laidOut (by kernel_rfl) (of_decide_eq_true (by kernel_rfl)) k1 bel lt1) (trodAll_cons_mk (Below.trod laidOut (by kernel_rfl) (of_decide_eq_true (by kernel_rfl)) k2 bel lt2) (trodAll_cons_mk (Below.trod laidOut (by kernel_rfl) (of_decide_eq_true (by kernel_rfl)) k3 bel lt3) trodAll_mk0)))), rfl, bel.frame _, fun h => by cases h⟩

theorem over : Rows.persistWakesRow.holds Try.pinned (OpenSpec.ofChange Rows.persistWakesSpec) :=
  OpenClaim.holds_of_wide 11 Try.f11 rfl rfl rfl rfl rfl rfl rfl ⟨rfl, rfl, rfl, rfl, rfl⟩ rfl rfl rfl rfl rfl (by kernel_rfl) Try.func11 (by kernel_rfl)
    (of_decide_eq_true (by kernel_rfl)) (by unfold Func.isWrapper; first | (rw [if_pos (by decide +kernel)]; kernel_rfl) | (rw [if_neg (by decide +kernel)]; exact ⟨rfl, rfl⟩))
    (fun os started H enc _ => lifted os started H enc)

/-- The statement. -/
theorem proved : Rows.PersistWakesSaid := over
#print axioms proved
end Go.Proofs.Ytbjmojajhkhekaa.persistWakes
