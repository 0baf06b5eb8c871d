/- The statement 'PacketActs' (sectimelaw16): for every input that can be read as data the call returns true, and each argument reads behind it as it did before. This text is the frame round the walk (PkW). -/
import Derived.Test.YtnpfndlmbaafaaaRows
import Derived.Test.YtnpfndlmbaafaaaPkW
import Derived.Test.YtnpfndlmbaafaaaOpenS
namespace Go.Proofs.Ytnpfndlmbaafaaa.packetActs
open Go.ChangeShapes Go.WideShapes Go.ChangeAt Go.RowKit
open Go.ChangeMaps (open_string shut_string)
set_option linter.unusedVariables false

theorem own : ownKnob Try.prog.godebug = none := by kernel_rfl
theorem laidOut : laidOutB Try.prog = true := by kernel_rfl

set_option maxRecDepth 100000 in
theorem lifted (os : Os) (started : os.Started) (H : Type) (enc : TypeId × Value → H) :
    ReturnsInHanded {} Try.checked os 12 .any (Rows.packetActsSpec.pre6 enc Try.prog Try.f12 Rows.packetActsRow.domain false) (Rows.packetActsSpec.post enc Try.prog Try.f12 false true false false) := by
  refine returnsInHanded_of_change (C := Try.checked) own started (by kernel_rfl) Try.func12
    (ChangeSpec.witness6 (enc := enc) (C := Try.checked) false ⟨#[], #[.agg #[.int .i64 0, .int .i64 0, .int .i64 0, .int .i64 0, .int .i64 0, .int .i64 0, .int .u32 0, .int .u32 0, .int .u32 0, .int .u64 0, .int .u64 0, .int .u64 0, .int .u64 0], .slice none 0 0, .int .i64 0, .int .u64 0, .int .u64 0], []⟩ 8 (by kernel_rfl) (by kernel_rfl) (by kernel_rfl) (by kernel_rfl)) ?_
  intro W base args ds gs before hval0 hW hcnd _
  have hval : ∀ (j : Nat) t v, Try.f12.params[j]? = some t → args[j]? = some v → Value.okWide Try.prog W .any base t v := hval0
  have hW' := hW
  obtain ⟨p, q, hA0, hV, rfl, hfz, hnd⟩ := hW
  have hA : DataW.TrodAll enc Try.prog W 0 (fun _ => true) true Try.f12.params.toList args.toList ds p := hA0
  rw [Try.params12] at hA hval
  obtain ⟨v0, vs0, d0, ds0, p0, q0, hargs, rfl, rfl, h0, r0⟩ := trodAll_cons hA
  obtain ⟨v1, vs1, d1, ds1, p1, q1, rfl, rfl, rfl, h1, r1⟩ := trodAll_cons r0
  obtain ⟨v2, vs2, d2, ds2, p2, q2, rfl, rfl, rfl, h2, r2⟩ := trodAll_cons r1
  obtain ⟨v3, vs3, d3, ds3, p3, q3, rfl, rfl, rfl, h3, r3⟩ := trodAll_cons r2
  obtain ⟨v4, vs4, d4, ds4, p4, q4, rfl, rfl, rfl, h4, r4⟩ := trodAll_cons r3
  obtain ⟨rfl, rfl, rfl⟩ := trodAll_nil r4
  obtain rfl : args = #[v0, v1, v2, v3, v4] := by cases args; simp_all
  obtain ⟨rfl, rfl⟩ := trodVars_none hV
  have k0 := h0
  have lt0 : ∀ x ∈ p0, x.block < W.heap.size := by obtain ⟨m, hm⟩ := k0; exact DataW.trod_lt m _ _ _ hm
  have k1 := h1
  have lt1 : ∀ x ∈ p1, x.block < W.heap.size := by obtain ⟨m, hm⟩ := k1; exact DataW.trod_lt m _ _ _ hm
  have k2 := h2
  have lt2 : ∀ x ∈ p2, x.block < W.heap.size := by obtain ⟨m, hm⟩ := k2; exact DataW.trod_lt m _ _ _ hm
  have k3 := h3
  have lt3 : ∀ x ∈ p3, x.block < W.heap.size := by obtain ⟨m, hm⟩ := k3; exact DataW.trod_lt m _ _ _ hm
  have k4 := h4
  have lt4 : ∀ x ∈ p4, x.block < W.heap.size := by obtain ⟨m, hm⟩ := k4; exact DataW.trod_lt m _ _ _ hm
  obtain ⟨cs0, rfl, hl0, hf0⟩ := open_struct Try.underlying25 (hval 0 25 v0 rfl rfl) h0
  rw [show Try.prog.cellsOf 25 = 13 from by kernel_rfl] at hl0
  obtain ⟨a0_0, e0_0, w0_0⟩ := hf0.int (i := 0) (o := 0) rfl rfl Try.underlying3 (by kernel_rfl)
  obtain ⟨a0_1, e0_1, w0_1⟩ := hf0.int (i := 1) (o := 1) rfl rfl Try.underlying3 (by kernel_rfl)
  obtain ⟨a0_2, e0_2, w0_2⟩ := hf0.int (i := 2) (o := 2) rfl rfl Try.underlying3 (by kernel_rfl)
  obtain ⟨a0_3, e0_3, w0_3⟩ := hf0.int (i := 3) (o := 3) rfl rfl Try.underlying3 (by kernel_rfl)
  obtain ⟨a0_4, e0_4, w0_4⟩ := hf0.int (i := 4) (o := 4) rfl rfl Try.underlying3 (by kernel_rfl)
  obtain ⟨a0_5, e0_5, w0_5⟩ := hf0.int (i := 5) (o := 5) rfl rfl Try.underlying3 (by kernel_rfl)
  obtain ⟨a0_6, e0_6, w0_6⟩ := hf0.int (i := 6) (o := 6) rfl rfl Try.underlying23 (by kernel_rfl)
  obtain ⟨a0_7, e0_7, w0_7⟩ := hf0.int (i := 7) (o := 7) rfl rfl Try.underlying23 (by kernel_rfl)
  obtain ⟨a0_8, e0_8, w0_8⟩ := hf0.int (i := 8) (o := 8) rfl rfl Try.underlying23 (by kernel_rfl)
  obtain ⟨a0_9, e0_9, w0_9⟩ := hf0.int (i := 9) (o := 9) rfl rfl Try.underlying22 (by kernel_rfl)
  obtain ⟨a0_10, e0_10, w0_10⟩ := hf0.int (i := 10) (o := 10) rfl rfl Try.underlying22 (by kernel_rfl)
  obtain ⟨a0_11, e0_11, w0_11⟩ := hf0.int (i := 11) (o := 11) rfl rfl Try.underlying22 (by kernel_rfl)
  obtain ⟨a0_12, e0_12, w0_12⟩ := hf0.int (i := 12) (o := 12) rfl rfl Try.underlying22 (by kernel_rfl)
  rcases cs0 with _ | ⟨y0_0, _ | ⟨y0_1, _ | ⟨y0_2, _ | ⟨y0_3, _ | ⟨y0_4, _ | ⟨y0_5, _ | ⟨y0_6, _ | ⟨y0_7, _ | ⟨y0_8, _ | ⟨y0_9, _ | ⟨y0_10, _ | ⟨y0_11, _ | ⟨y0_12, _ | ⟨zz, zr⟩⟩⟩⟩⟩⟩⟩⟩⟩⟩⟩⟩⟩⟩ <;> simp only [List.length_nil, List.length_cons] at hl0 <;> try omega
  simp only [List.drop_succ_cons, List.drop_zero, List.take_succ_cons, List.take_zero, List.cons.injEq, and_true] at e0_0 e0_1 e0_2 e0_3 e0_4 e0_5 e0_6 e0_7 e0_8 e0_9 e0_10 e0_11 e0_12
  subst e0_0 e0_1 e0_2 e0_3 e0_4 e0_5 e0_6 e0_7 e0_8 e0_9 e0_10 e0_11 e0_12
  obtain ⟨A1, n1, c1, l1, rfl, b1⟩ := open_bytes Try.underlying52 Try.underlying5 (by kernel_rfl) (hval 1 52 v1 rfl rfl) h1
  obtain ⟨a2, rfl, rfl, rfl, w2⟩ := open_int Try.underlying3 (hval 2 3 v2 rfl rfl) h2
  obtain ⟨a3, rfl, rfl, rfl, w3⟩ := open_int Try.underlying22 (hval 3 22 v3 rfl rfl) h3
  obtain ⟨a4, rfl, rfl, rfl, w4⟩ := open_int Try.underlying22 (hval 4 22 v4 rfl rfl) h4
  clear hA0 hval0
  refine (packetActs_walk a0_0 a0_1 a0_2 a0_3 a0_4 a0_5 a0_6 a0_7 a0_8 a0_9 a0_10 a0_11 a0_12 w0_6 w0_7 w0_8 w0_9 w0_10 w0_11 w0_12 a2 a3 a4 w3 w4 A1 n1 c1 l1 W b1).mono fun e W' ⟨he, bel⟩ => ?_
  subst he
  exact ⟨_, rfl, _, _, _, [], _, [], hW', trodAll_mk1 (shut_bool Try.underlying4 _), (trodAll_cons_mk (Below.trod laidOut (by kernel_rfl) (of_decide_eq_true (by kernel_rfl)) k0 bel lt0) (trodAll_cons_mk (Below.trod laidOut (by kernel_rfl) (of_decide_eq_true (by kernel_rfl)) k1 bel lt1) (trodAll_cons_mk (Below.trod laidOut (by kernel_rfl) (of_decide_eq_true (by kernel_rfl)) k2 bel lt2) (trodAll_cons_mk (Below.trod laidOut (by kernel_rfl) (of_decide_eq_true (by kernel_rfl)) k3 bel lt3) (trodAll_cons_mk (Below.trod laidOut (by kernel_rfl) (of_decide_eq_true (by kernel_rfl)) k4 bel lt4) trodAll_mk0))))), rfl, bel.frame _, fun h => by cases h⟩

theorem over : Rows.packetActsRow.holds Try.pinned (OpenSpec.ofChange Rows.packetActsSpec) :=
  OpenClaim.holds_of_wide 12 Try.f12 rfl rfl rfl rfl rfl rfl rfl ⟨rfl, rfl, rfl, rfl, rfl⟩ rfl rfl rfl rfl rfl (by kernel_rfl) Try.func12 (by kernel_rfl)
    (of_decide_eq_true (by kernel_rfl)) (by unfold Func.isWrapper; first | (rw [if_pos (by decide +kernel)]; kernel_rfl) | (rw [if_neg (by decide +kernel)]; exact ⟨rfl, rfl⟩))
    (fun os started H enc _ => lifted os started H enc)

/-- The statement. -/
theorem proved : Rows.PacketActsSaid := over
#print axioms proved
end Go.Proofs.Ytnpfndlmbaafaaa.packetActs
