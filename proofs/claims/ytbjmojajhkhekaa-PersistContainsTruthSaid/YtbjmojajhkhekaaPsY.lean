/- The walk of PersistContainsTruth. -/
import Derived.Test.YtbjmojajhkhekaaPsQ
import Derived.Test.YtbjmojajhkhekaaPsI
import Derived.Test.YtbjmojajhkhekaaPsE
import Derived.Test.YtbjmojajhkhekaaPsT
import Derived.Test.YtbjmojajhkhekaaTakeG
namespace Go.Proofs.Ytbjmojajhkhekaa
open Go.RowKit

theorem below_only {B : Nat} {a w w' : World} {tb : Nat} (h : Below B a w) (ho : w.grownBy w' (some tb)) (h1 : B ≤ w.heap.size) (h2 : B ≤ tb) : Below B a w' := h.grown ho h1 (fun k hk => by injection hk with hk; subst hk; exact h2)
theorem int_in (B b : Nat) (l : List Int) (k : Nat) (m : Int) (h1 : 1 ≤ m) (h2 : m ≤ 1000000) (w : World) (h : Tape B w b l k) :
    Calls Try.prog 45 #[.pointer (some ⟨b, 0, none⟩), .int .i64 m] w fun e w' => ∃ r k', e = .returned (.int .i64 r) ∧ 0 ≤ r ∧ r < m ∧ Tape B w' b l k' ∧ Only b w w' :=
  (int_any B b l k m h1 (by omega) w h).mono fun e w' hq => by
    obtain ⟨k', he, ht, ho⟩ := hq
    exact ⟨_, k', he, Int.emod_nonneg _ (by omega), Int.emod_lt_of_pos _ (by omega), ht, ho⟩
theorem load_known {cn at_ lo hi pp le re : Int} {L : List UInt8} (HR : loadR L = ([cn, at_, lo, hi, pp, le, re], 0)) (A : Option Addr) (n c : Nat) (w : World) (hv : Bytes w A n c L) :
    Calls Try.prog 23 #[.slice A n c] w fun e w' => e = .returned (.tuple #[.agg #[.int .i64 cn, .int .i64 at_, .int .i64 lo, .int .i64 hi, .int .i64 pp, .int .i64 le, .int .i64 re], .int .i64 0]) ∧ Below w.heap.size w w' := by
  refine (load_any A n c _ w hv).mono fun e w' hq => ⟨?_, hq.2⟩
  have h := hq.1
  simp only [lvN, lvE, HR] at h
  exact h
theorem load_made {cn at_ lo hi pp le re : Int} (hm : madeOk cn at_ lo hi pp le re) (A : Option Addr) (n c : Nat) (w : World) (hv : Bytes w A n c (saveL [cn, at_, lo, hi, pp, le, re])) :
    Calls Try.prog 23 #[.slice A n c] w fun e w' => e = .returned (.tuple #[.agg #[.int .i64 cn, .int .i64 at_, .int .i64 lo, .int .i64 hi, .int .i64 pp, .int .i64 le, .int .i64 re], .int .i64 0]) ∧ Below w.heap.size w w' :=
  load_known (hm.R cn hm.1 (by have := hm.2.1; omega)) A n c w hv
set_option maxRecDepth 100000 in
set_option maxHeartbeats 4000000 in
theorem persistTruth_walk (A0 : Option Addr) (n0 c0 : Nat) (l : List Int) (w : World) (hv : Rd w 1 A0 n0 c0 (l.map (Value.int .i64))) :
    Calls Try.prog 12 #[.slice A0 n0 c0] w fun e w' => e = .returned (.bool true) ∧ Below w.heap.size w w' := by
  have V0 := Lib.hid hv
  have z1 := hv.2.1
  have z2 : c0 ≤ 9223372036854775807 := by have := hv.2.2.1; unfold maxLen at this; omega
  clear hv
  go_enter Try.func12, Try.ntmps12
  go_wp2_with fail
  refine (tape_new A0 n0 c0 l _ V0.out (by omega)).mono ?_
  rintro e y1 ⟨tb, rfl, ht, hb⟩
  have hbx : Below w.heap.size w y1 := below_via (by go_grown) hb (by first | (simp; done) | (simp; omega))
  have T := Lib.hid ht
  have R2 := Lib.hid hbx
  have hz_y1 := R2.out.size
  clear hb hbx ht
  have tgw : w.heap.size ≤ tb := T.out.ge
  have tlt := T.out.lt
  go_wp2_with fail
  refine (made_any _ _ _ _ _ T.out).mono ?_
  rintro e y3 ⟨cn, at_, lo, hi, pp, le, re, k1, rfl, hm, ht, ho⟩
  have R4 := Lib.hid (below_only R2.out ho hz_y1 tgw)
  have hz_y3 := R4.out.size
  clear R2 hz_y1
  have T := Lib.hid ht
  clear ht ho
  have tlt := T.out.lt
  have HM := Lib.hid hm
  obtain ⟨m1, m2, m3, m4, m5, m6, m7, m8, m9, m10, m11, m12, m13, m14⟩ := hm
  have SV0 := Lib.hid HM.out.sv
  go_upto_region 3 with fail
  obtain ⟨x5, m_, ex5, em_⟩ : ∃ x5 m_, x5 = y3.alloc (.cells #[.int .i64 cn, .int .i64 at_, .int .i64 lo, .int .i64 hi, .int .i64 pp, .int .i64 le, .int .i64 re] 41) ∧ m_ = y3.heap.size := ⟨_, _, rfl, rfl⟩
  rw [← ex5, ← em_]
  have hbx : Below y3.heap.size y3 x5 := by rw [ex5]; exact below_alloc1 _ _ 
  have g_M : w.heap.size ≤ m_ := by rw [em_]; exact hz_y3
  have t_m_ : tb < m_ := by rw [em_]; exact T.out.lt
  have T := Lib.hid (T.out.stays hbx)
  have BM := Lib.hid (show Blk x5 m_ 41 #[.int .i64 cn, .int .i64 at_, .int .i64 lo, .int .i64 hi, .int .i64 pp, .int .i64 le, .int .i64 re] by rw [ex5, em_]; exact blk_new1_0 _ _ _ )
  have R6 := Lib.hid (R4.out.trans (hbx.mono hz_y3))
  have hz_x5 := R6.out.size
  clear hbx ex5 em_ R4 hz_y3
  have S1 : Hid (spanOk lo hi) := by unfold Hid spanOk tickOk; omega
  obtain ⟨wd, hwd⟩ : ∃ wd, hi - lo = wd := ⟨_, rfl⟩
  have HWD := Lib.hid hwd
  have wd0 : 0 ≤ wd := by omega
  have wd1 : wd ≤ 1000 := by omega
  clear hwd
  have ww : IntKind.i64.wrap (wd + 1) = wd + 1 := IntWalk.i64_in _ (by omega)
  refine take_start (S := fun w' => Blk w' m_ 41 #[.int .i64 cn, .int .i64 at_, .int .i64 lo, .int .i64 hi, .int .i64 pp, .int .i64 le, .int .i64 re]) (by kernel_rfl) ?hq3 BM.out.drew (fun hPQ hHeld => ?rq3)
  case hq3 => (repeat (with_reducible first | refine PQ.then ?_ | refine PQ.block ?_)); exact fun _ _ d _ _ h => by cases d <;> exact h
  refine take_val (i := 0) (d := (some 21)) (v := ?_) rfl rfl (by kernel_rfl) (by kernel_rfl) (by kernel_rfl) hPQ (by rfl) (fun wq hSw => ?_) hHeld ?_
  rotate_left 1
  · replace hSw : Blk wq m_ 41 #[.int .i64 cn, .int .i64 at_, .int .i64 lo, .int .i64 hi, .int .i64 pp, .int .i64 le, .int .i64 re] := hSw; have cM := hSw.cell; clear hSw; go_simp; try with_reducible rfl
  try simp only [Act.put, List.setIfInBounds_toArray, List.set_cons_zero, List.set_cons_succ]
  refine take_val (i := 1) (d := (some 22)) (v := ?_) rfl rfl (by kernel_rfl) (by kernel_rfl) (by kernel_rfl) hPQ (by rfl) (fun wq hSw => ?_) hHeld ?_
  rotate_left 1
  · replace hSw : Blk wq m_ 41 #[.int .i64 cn, .int .i64 at_, .int .i64 lo, .int .i64 hi, .int .i64 pp, .int .i64 le, .int .i64 re] := hSw; have cM := hSw.cell; clear hSw; go_simp; try with_reducible rfl
  try simp only [Act.put, List.setIfInBounds_toArray, List.set_cons_zero, List.set_cons_succ]
  refine take_val (i := 2) (d := (some 23)) (v := ?_) rfl rfl (by kernel_rfl) (by kernel_rfl) (by kernel_rfl) hPQ (by rfl) (fun wq hSw => ?_) hHeld ?_
  rotate_left 1
  · replace hSw : Blk wq m_ 41 #[.int .i64 cn, .int .i64 at_, .int .i64 lo, .int .i64 hi, .int .i64 pp, .int .i64 le, .int .i64 re] := hSw; have cM := hSw.cell; clear hSw; go_simp; try with_reducible rfl
  try simp only [Act.put, List.setIfInBounds_toArray, List.set_cons_zero, List.set_cons_succ]
  refine take_val (i := 3) (d := (some 24)) (v := ?_) rfl rfl (by kernel_rfl) (by kernel_rfl) (by kernel_rfl) hPQ (by rfl) (fun wq hSw => ?_) hHeld ?_
  rotate_left 1
  · replace hSw : Blk wq m_ 41 #[.int .i64 cn, .int .i64 at_, .int .i64 lo, .int .i64 hi, .int .i64 pp, .int .i64 le, .int .i64 re] := hSw; have cM := hSw.cell; clear hSw; go_simp; try with_reducible rfl
  try simp only [Act.put, List.setIfInBounds_toArray, List.set_cons_zero, List.set_cons_succ]
  refine take_val (i := 4) (d := (some 25)) (v := ?_) rfl rfl (by kernel_rfl) (by kernel_rfl) (by kernel_rfl) hPQ (by rfl) (fun wq hSw => ?_) hHeld ?_
  rotate_left 1
  · replace hSw : Blk wq m_ 41 #[.int .i64 cn, .int .i64 at_, .int .i64 lo, .int .i64 hi, .int .i64 pp, .int .i64 le, .int .i64 re] := hSw; have cM := hSw.cell; clear hSw; go_simp; try with_reducible rfl
  try simp only [Act.put, List.setIfInBounds_toArray, List.set_cons_zero, List.set_cons_succ]
  refine take_val (i := 5) (d := (some 26)) (v := ?_) rfl rfl (by kernel_rfl) (by kernel_rfl) (by kernel_rfl) hPQ (by rfl) (fun wq hSw => ?_) hHeld ?_
  rotate_left 1
  · replace hSw : Blk wq m_ 41 #[.int .i64 cn, .int .i64 at_, .int .i64 lo, .int .i64 hi, .int .i64 pp, .int .i64 le, .int .i64 re] := hSw; have cM := hSw.cell; clear hSw; go_simp; try with_reducible rfl
  try simp only [Act.put, List.setIfInBounds_toArray, List.set_cons_zero, List.set_cons_succ]
  refine take_val (i := 6) (d := (some 27)) (v := ?_) rfl rfl (by kernel_rfl) (by kernel_rfl) (by kernel_rfl) hPQ (by rfl) (fun wq hSw => ?_) hHeld ?_
  rotate_left 1
  · replace hSw : Blk wq m_ 41 #[.int .i64 cn, .int .i64 at_, .int .i64 lo, .int .i64 hi, .int .i64 pp, .int .i64 le, .int .i64 re] := hSw; have cM := hSw.cell; clear hSw; go_simp; try with_reducible rfl
  try simp only [Act.put, List.setIfInBounds_toArray, List.set_cons_zero, List.set_cons_succ]
  refine take_val (i := 7) (d := (some 28)) (v := ?_) rfl rfl (by kernel_rfl) (by kernel_rfl) (by kernel_rfl) hPQ (by rfl) (fun wq hSw => ?_) hHeld ?_
  rotate_left 1
  · replace hSw : Blk wq m_ 41 #[.int .i64 cn, .int .i64 at_, .int .i64 lo, .int .i64 hi, .int .i64 pp, .int .i64 le, .int .i64 re] := hSw; have cM := hSw.cell; clear hSw; go_simp; try with_reducible rfl
  try simp only [Act.put, List.setIfInBounds_toArray, List.set_cons_zero, List.set_cons_succ]
  have TD : Tape w.heap.size x5.drew tb l k1 := Tape.keep T.out (fun q hq => rfl)
  have RD := R6.out.drew
  refine take_makeg (j := 8) (d := (some 29)) (R := fun v w' => v = .int .i64 wd ∧ Below x5.drew.heap.size x5.drew w') rfl rfl (by kernel_rfl) (by rfl) ((width_ok lo hi _ S1.out).mono fun e q hq => ⟨_, hq.1, by rw [HWD.out], hq.2⟩) (by go_simp) ?_
  rintro v wA3 ⟨rfl, hbA⟩
  have hHeld2 := hHeld.stays hbA
  refine ⟨hHeld2, ?_⟩
  clear hHeld
  have hHeld := hHeld2
  clear hHeld2
  replace TD := TD.stays hbA
  replace RD := below_via RD hbA (by have := hz_x5; simpa using this)
  try simp only [Act.put, List.setIfInBounds_toArray, List.set_cons_zero, List.set_cons_succ]
  refine take_val (i := 9) (d := (some 30)) (v := ?_) rfl rfl (by kernel_rfl) (by kernel_rfl) (by kernel_rfl) hPQ (by rfl) (fun wq hSw => ?_) hHeld ?_
  rotate_left 1
  · replace hSw : Blk wq m_ 41 #[.int .i64 cn, .int .i64 at_, .int .i64 lo, .int .i64 hi, .int .i64 pp, .int .i64 le, .int .i64 re] := hSw; have cM := hSw.cell; clear hSw; go_simp; try with_reducible rfl
  try simp only [Act.put, List.setIfInBounds_toArray, List.set_cons_zero, List.set_cons_succ]
  refine take_makeg (j := 10) (d := (some 31)) (R := fun v w' => ∃ r k', v = .int .i64 r ∧ 0 ≤ r ∧ r < wd + 1 ∧ Tape w.heap.size w' tb l k' ∧ Only tb wA3 w') rfl rfl (by kernel_rfl) (by rfl) ((int_in _ _ _ _ (wd + 1) (by omega) (by omega) _ TD).mono fun e q hq => by obtain ⟨r, k', he, h1, h2, h3, h4⟩ := hq; exact ⟨_, he, r, k', rfl, h1, h2, h3, h4⟩) (by go_simp) ?_
  rintro v wB3 ⟨r1, k2, rfl, r10, r11, ht, ho⟩
  have hB0 : Blk wB3 m_ 41 #[.int .i64 cn, .int .i64 at_, .int .i64 lo, .int .i64 hi, .int .i64 pp, .int .i64 le, .int .i64 re] := ((BM.out.drew).stays hbA).grown ho (by simp; omega)
  have BM := Lib.hid ((BM.out.drew.stays hbA).grown ho (by simp; omega))
  replace RD := below_only RD ho (by have := RD.size; simpa using this) tgw
  have T := Lib.hid ht
  clear ht ho TD hbA
  refine ⟨hB0, ?_⟩
  clear hHeld
  have hHeld := hB0
  clear hB0
  try simp only [Act.put, List.setIfInBounds_toArray, List.set_cons_zero, List.set_cons_succ]
  clear ww
  have ww : IntKind.i64.wrap (lo + r1) = lo + r1 := IntWalk.i64_in _ (by omega)
  refine take_val (i := 11) (d := (some 32)) (v := ?_) rfl rfl (by kernel_rfl) (by kernel_rfl) (by kernel_rfl) hPQ (by rfl) (fun wq hSw => ?_) hHeld ?_
  rotate_left 1
  · replace hSw : Blk wq m_ 41 #[.int .i64 cn, .int .i64 at_, .int .i64 lo, .int .i64 hi, .int .i64 pp, .int .i64 le, .int .i64 re] := hSw; have cM := hSw.cell; clear hSw; go_simp; try with_reducible rfl
  try simp only [Act.put, List.setIfInBounds_toArray, List.set_cons_zero, List.set_cons_succ]
  refine take_val (i := 12) (d := (some 5)) (v := ?_) rfl rfl (by kernel_rfl) (by kernel_rfl) (by kernel_rfl) hPQ (by rfl) (fun wq hSw => ?_) hHeld ?_
  rotate_left 1
  · replace hSw : Blk wq m_ 41 #[.int .i64 cn, .int .i64 at_, .int .i64 lo, .int .i64 hi, .int .i64 pp, .int .i64 le, .int .i64 re] := hSw; have cM := hSw.cell; clear hSw; go_simp; try with_reducible rfl
  try simp only [Act.put, List.setIfInBounds_toArray, List.set_cons_zero, List.set_cons_succ]
  clear ww
  refine wpAnyH_done (by kernel_rfl) ?_ _
  clear hHeld
  have R7 := Lib.hid RD
  have hz_wB3 := R7.out.size
  clear RD R6 hz_x5
  go_wp2_with fail
  refine (int_in _ _ _ _ 500 (by omega) (by omega) _ T.out).mono ?_
  rintro e y8 ⟨o0, k3, rfl, o00, o01, ht, ho⟩
  have BM := Lib.hid (BM.out.grown ho (by simp; omega))
  have R9 := Lib.hid (below_only R7.out ho hz_wB3 tgw)
  have hz_y8 := R9.out.size
  clear R7 hz_wB3
  have T := Lib.hid ht
  clear ht ho
  go_upto_region 5 with fail
  obtain ⟨x10, u_, ex10, eu_⟩ : ∃ x10 u_, x10 = y8.alloc (.cells #[.int .i64 o0, .int .i64 0] 37) ∧ u_ = y8.heap.size := ⟨_, _, rfl, rfl⟩
  rw [← ex10, ← eu_]
  have hbx : Below y8.heap.size y8 x10 := by rw [ex10]; exact below_alloc1 _ _ 
  have o_M_U : m_ < u_ := by rw [eu_]; exact BM.out.lt
  have g_U : w.heap.size ≤ u_ := by rw [eu_]; exact hz_y8
  have t_u_ : tb < u_ := by rw [eu_]; exact T.out.lt
  have BM := Lib.hid (BM.out.stays hbx)
  have T := Lib.hid (T.out.stays hbx)
  have BU := Lib.hid (show Blk x10 u_ 37 #[.int .i64 o0, .int .i64 0] by rw [ex10, eu_]; exact blk_new1_0 _ _ _ )
  have R11 := Lib.hid (R9.out.trans (hbx.mono hz_y8))
  have hz_x10 := R11.out.size
  clear hbx ex10 eu_ R9 hz_y8
  refine take_start (S := fun w' => w'.cell? ⟨u_, 0, none⟩ = some (.int .i64 o0)) (by kernel_rfl) ?hq5 (BU.out.drew.cell 0) (fun hPQ hHeld => ?rq5)
  case hq5 => (repeat (with_reducible first | refine PQ.then ?_ | refine PQ.block ?_)); exact fun _ _ d _ _ h => by cases d <;> exact h
  refine take_val (i := 0) (d := (some 36)) (v := ?_) rfl rfl (by kernel_rfl) (by kernel_rfl) (by kernel_rfl) hPQ (by rfl) (fun wq hSw => ?_) hHeld ?_
  rotate_left 1
  · replace hSw : wq.cell? ⟨u_, 0, none⟩ = some (.int .i64 o0) := hSw; go_simp; try with_reducible rfl
  try simp only [Act.put, List.setIfInBounds_toArray, List.set_cons_zero, List.set_cons_succ]
  refine take_val (i := 1) (d := (some 37)) (v := ?_) rfl rfl (by kernel_rfl) (by kernel_rfl) (by kernel_rfl) hPQ (by rfl) (fun wq hSw => ?_) hHeld ?_
  rotate_left 1
  · replace hSw : wq.cell? ⟨u_, 0, none⟩ = some (.int .i64 o0) := hSw; go_simp; try with_reducible rfl
  try simp only [Act.put, List.setIfInBounds_toArray, List.set_cons_zero, List.set_cons_succ]
  refine take_val (i := 2) (d := (some 38)) (v := ?_) rfl rfl (by kernel_rfl) (by kernel_rfl) (by kernel_rfl) hPQ (by rfl) (fun wq hSw => ?_) hHeld ?_
  rotate_left 1
  · replace hSw : wq.cell? ⟨u_, 0, none⟩ = some (.int .i64 o0) := hSw; go_simp; try with_reducible rfl
  try simp only [Act.put, List.setIfInBounds_toArray, List.set_cons_zero, List.set_cons_succ]
  have TD : Tape w.heap.size x10.drew tb l k3 := Tape.keep T.out (fun q hq => rfl)
  have RD := R11.out.drew
  refine take_makeg (j := 3) (d := (some 39)) (R := fun v w' => ∃ r k', v = .int .i64 r ∧ 0 ≤ r ∧ r < 500 ∧ Tape w.heap.size w' tb l k' ∧ Only tb x10.drew w') rfl rfl (by kernel_rfl) (by rfl) ((int_in _ _ _ _ 500 (by omega) (by omega) _ TD).mono fun e q hq => by obtain ⟨r, k', he, h1, h2, h3, h4⟩ := hq; exact ⟨_, he, r, k', rfl, h1, h2, h3, h4⟩) (by go_simp) ?_
  rintro v wB5 ⟨r2, k4, rfl, r20, r21, ht, ho⟩
  have hB0 : Blk wB5 u_ 37 #[.int .i64 o0, .int .i64 0] := BU.out.drew.grown ho (by simp; omega)
  have BM := Lib.hid (BM.out.drew.grown ho (by simp; omega))
  have BU := Lib.hid (BU.out.drew.grown ho (by simp; omega))
  replace RD := below_only RD ho (by have := RD.size; simpa using this) tgw
  have T := Lib.hid ht
  clear ht ho TD
  have hHeld2 := hB0.cell 0
  refine ⟨hHeld2, ?_⟩
  clear hHeld
  have hHeld := hHeld2
  clear hHeld2
  try simp only [Act.put, List.setIfInBounds_toArray, List.set_cons_zero, List.set_cons_succ]
  have ww : IntKind.i64.wrap (o0 + r2) = o0 + r2 := IntWalk.i64_in _ (by omega)
  refine take_val (i := 4) (d := (some 40)) (v := ?_) rfl rfl (by kernel_rfl) (by kernel_rfl) (by kernel_rfl) hPQ (by rfl) (fun wq hSw => ?_) hHeld ?_
  rotate_left 1
  · replace hSw : wq.cell? ⟨u_, 0, none⟩ = some (.int .i64 o0) := hSw; go_simp; try with_reducible rfl
  try simp only [Act.put, List.setIfInBounds_toArray, List.set_cons_zero, List.set_cons_succ]
  refine take_val (i := 5) (d := (some 41)) (v := ?_) rfl rfl (by kernel_rfl) (by kernel_rfl) (by kernel_rfl) hPQ (by rfl) (fun wq hSw => ?_) hHeld ?_
  rotate_left 1
  · replace hSw : wq.cell? ⟨u_, 0, none⟩ = some (.int .i64 o0) := hSw; go_simp; try with_reducible rfl
  try simp only [Act.put, List.setIfInBounds_toArray, List.set_cons_zero, List.set_cons_succ]
  refine take_do (j := 6) (d := none) (w2 := wB5.setCell ⟨u_, 1, none⟩ (.int .i64 (o0 + r2))) rfl rfl (by kernel_rfl) rfl (Or.inr ⟨rfl, ?hrun6⟩) ((hB0.put 1 _).cell 0) ?rest6
  case hrun6 => have cU := hB0.cell; have zU := hB0.frozen; go_simp; try with_reducible rfl
  try simp only [Act.put, List.setIfInBounds_toArray, List.set_cons_zero, List.set_cons_succ]
  refine wpAnyH_done (by kernel_rfl) ?_ _
  clear hHeld hB0 ww
  have R12 := Lib.hid RD
  have hz_wB5 := R12.out.size
  clear RD R11 hz_x10
  obtain ⟨o1, ho1⟩ : ∃ o1, o0 + r2 = o1 := ⟨_, rfl⟩
  rw [ho1]
  have o1a : o0 ≤ o1 := by omega
  have o1b : o1 ≤ o0 + 499 := by omega
  clear ho1
  obtain ⟨x13, ex13⟩ : ∃ x13, x13 = wB5.setCell ⟨u_, 1, none⟩ (.int .i64 o1) := ⟨_, rfl⟩
  rw [← ex13]
  have BM := Lib.hid (show Blk x13 m_ 41 #[.int .i64 cn, .int .i64 at_, .int .i64 lo, .int .i64 hi, .int .i64 pp, .int .i64 le, .int .i64 re] from by rw [ex13]; exact (BM.out.far (p := ⟨u_, 1, none⟩) (by simp only []; omega) _))
  have BU := Lib.hid (show Blk x13 u_ 37 #[.int .i64 o0, .int .i64 o1] from by rw [ex13]; exact (BU.out.put 1 _))
  have R14 := Lib.hid (show Below w.heap.size w x13 from by rw [ex13]; exact (R12.out.setCell (p := ⟨u_, 1, none⟩) (by simp only []; omega) _))
  have hz_x13 := R14.out.size
  clear R12 hz_wB5
  have T := Lib.hid (show Tape w.heap.size x13 tb l k4 from by rw [ex13]; exact T.out.keep (fun q hq => Below.heap_setCell _ ⟨u_, 1, none⟩ _ q (by simp only []; omega)))
  clear ex13
  obtain ⟨tr, htr⟩ : ∃ tr, lo + r1 = tr := ⟨_, rfl⟩
  rw [htr]
  have tr0 : lo ≤ tr := by omega
  have tr1 : tr ≤ hi := by have := HWD.out; omega
  clear htr
  have S2 : Hid (spanOk o0 o1) := by unfold Hid spanOk tickOk; omega
  obtain ⟨we, hwe⟩ : ∃ we, o1 - o0 = we := ⟨_, rfl⟩
  have HWE := Lib.hid hwe
  have we0 : 0 ≤ we := by omega
  have we1 : we ≤ 499 := by omega
  clear hwe
  have ww : IntKind.i64.wrap (we + 1) = we + 1 := IntWalk.i64_in _ (by omega)
  go_upto_region 6 with fail
  refine take_start (S := fun w' => Blk w' u_ 37 #[.int .i64 o0, .int .i64 o1]) (by kernel_rfl) ?hq6 BU.out.drew (fun hPQ hHeld => ?rq6)
  case hq6 => (repeat (with_reducible first | refine PQ.then ?_ | refine PQ.block ?_)); exact fun _ _ d _ _ h => by cases d <;> exact h
  refine take_val (i := 0) (d := (some 42)) (v := ?_) rfl rfl (by kernel_rfl) (by kernel_rfl) (by kernel_rfl) hPQ (by rfl) (fun wq hSw => ?_) hHeld ?_
  rotate_left 1
  · replace hSw : Blk wq u_ 37 #[.int .i64 o0, .int .i64 o1] := hSw; have cM := hSw.cell; clear hSw; go_simp; try with_reducible rfl
  try simp only [Act.put, List.setIfInBounds_toArray, List.set_cons_zero, List.set_cons_succ]
  refine take_val (i := 1) (d := (some 43)) (v := ?_) rfl rfl (by kernel_rfl) (by kernel_rfl) (by kernel_rfl) hPQ (by rfl) (fun wq hSw => ?_) hHeld ?_
  rotate_left 1
  · replace hSw : Blk wq u_ 37 #[.int .i64 o0, .int .i64 o1] := hSw; have cM := hSw.cell; clear hSw; go_simp; try with_reducible rfl
  try simp only [Act.put, List.setIfInBounds_toArray, List.set_cons_zero, List.set_cons_succ]
  refine take_val (i := 2) (d := (some 44)) (v := ?_) rfl rfl (by kernel_rfl) (by kernel_rfl) (by kernel_rfl) hPQ (by rfl) (fun wq hSw => ?_) hHeld ?_
  rotate_left 1
  · replace hSw : Blk wq u_ 37 #[.int .i64 o0, .int .i64 o1] := hSw; have cM := hSw.cell; clear hSw; go_simp; try with_reducible rfl
  try simp only [Act.put, List.setIfInBounds_toArray, List.set_cons_zero, List.set_cons_succ]
  refine take_val (i := 3) (d := (some 45)) (v := ?_) rfl rfl (by kernel_rfl) (by kernel_rfl) (by kernel_rfl) hPQ (by rfl) (fun wq hSw => ?_) hHeld ?_
  rotate_left 1
  · replace hSw : Blk wq u_ 37 #[.int .i64 o0, .int .i64 o1] := hSw; have cM := hSw.cell; clear hSw; go_simp; try with_reducible rfl
  try simp only [Act.put, List.setIfInBounds_toArray, List.set_cons_zero, List.set_cons_succ]
  have TD : Tape w.heap.size x13.drew tb l k4 := Tape.keep T.out (fun q hq => rfl)
  have RD := R14.out.drew
  refine take_makeg (j := 4) (d := (some 46)) (R := fun v w' => v = .int .i64 we ∧ Below x13.drew.heap.size x13.drew w') rfl rfl (by kernel_rfl) (by rfl) ((width_ok o0 o1 _ S2.out).mono fun e q hq => ⟨_, hq.1, by rw [HWE.out], hq.2⟩) (by go_simp) ?_
  rintro v wA6 ⟨rfl, hbA⟩
  have hHeld2 := hHeld.stays hbA
  refine ⟨hHeld2, ?_⟩
  clear hHeld
  have hHeld := hHeld2
  clear hHeld2
  replace TD := TD.stays hbA
  replace RD := below_via RD hbA (by have := hz_x13; simpa using this)
  try simp only [Act.put, List.setIfInBounds_toArray, List.set_cons_zero, List.set_cons_succ]
  refine take_val (i := 5) (d := (some 47)) (v := ?_) rfl rfl (by kernel_rfl) (by kernel_rfl) (by kernel_rfl) hPQ (by rfl) (fun wq hSw => ?_) hHeld ?_
  rotate_left 1
  · replace hSw : Blk wq u_ 37 #[.int .i64 o0, .int .i64 o1] := hSw; have cM := hSw.cell; clear hSw; go_simp; try with_reducible rfl
  try simp only [Act.put, List.setIfInBounds_toArray, List.set_cons_zero, List.set_cons_succ]
  refine take_makeg (j := 6) (d := (some 48)) (R := fun v w' => ∃ r k', v = .int .i64 r ∧ 0 ≤ r ∧ r < we + 1 ∧ Tape w.heap.size w' tb l k' ∧ Only tb wA6 w') rfl rfl (by kernel_rfl) (by rfl) ((int_in _ _ _ _ (we + 1) (by omega) (by omega) _ TD).mono fun e q hq => by obtain ⟨r, k', he, h1, h2, h3, h4⟩ := hq; exact ⟨_, he, r, k', rfl, h1, h2, h3, h4⟩) (by go_simp) ?_
  rintro v wB6 ⟨r3, k5, rfl, r30, r31, ht, ho⟩
  have hB0 : Blk wB6 u_ 37 #[.int .i64 o0, .int .i64 o1] := ((BU.out.drew).stays hbA).grown ho (by simp; omega)
  have BM := Lib.hid ((BM.out.drew.stays hbA).grown ho (by simp; omega))
  have BU := Lib.hid ((BU.out.drew.stays hbA).grown ho (by simp; omega))
  replace RD := below_only RD ho (by have := RD.size; simpa using this) tgw
  have T := Lib.hid ht
  clear ht ho TD hbA
  refine ⟨hB0, ?_⟩
  clear hHeld
  have hHeld := hB0
  clear hB0
  try simp only [Act.put, List.setIfInBounds_toArray, List.set_cons_zero, List.set_cons_succ]
  clear ww
  have ww : IntKind.i64.wrap (o0 + r3) = o0 + r3 := IntWalk.i64_in _ (by omega)
  refine take_val (i := 7) (d := (some 49)) (v := ?_) rfl rfl (by kernel_rfl) (by kernel_rfl) (by kernel_rfl) hPQ (by rfl) (fun wq hSw => ?_) hHeld ?_
  rotate_left 1
  · replace hSw : Blk wq u_ 37 #[.int .i64 o0, .int .i64 o1] := hSw; have cM := hSw.cell; clear hSw; go_simp; try with_reducible rfl
  try simp only [Act.put, List.setIfInBounds_toArray, List.set_cons_zero, List.set_cons_succ]
  refine take_val (i := 8) (d := (some 7)) (v := ?_) rfl rfl (by kernel_rfl) (by kernel_rfl) (by kernel_rfl) hPQ (by rfl) (fun wq hSw => ?_) hHeld ?_
  rotate_left 1
  · replace hSw : Blk wq u_ 37 #[.int .i64 o0, .int .i64 o1] := hSw; have cM := hSw.cell; clear hSw; go_simp; try with_reducible rfl
  try simp only [Act.put, List.setIfInBounds_toArray, List.set_cons_zero, List.set_cons_succ]
  clear ww
  refine wpAnyH_done (by kernel_rfl) ?_ _
  clear hHeld
  have R15 := Lib.hid RD
  have hz_wB6 := R15.out.size
  clear RD R14 hz_x13
  obtain ⟨ps, hps⟩ : ∃ ps, o0 + r3 = ps := ⟨_, rfl⟩
  rw [hps]
  have ps0 : o0 ≤ ps := by omega
  have ps1 : ps ≤ o1 := by have := HWE.out; omega
  clear hps
  have kM_0 : wB6.cell? ⟨m_, 0, none⟩ = some (.int .i64 cn) := BM.out.cell 0
  have kM_1 : wB6.cell? ⟨m_, 1, none⟩ = some (.int .i64 at_) := BM.out.cell 1
  have kM_2 : wB6.cell? ⟨m_, 2, none⟩ = some (.int .i64 lo) := BM.out.cell 2
  have kM_3 : wB6.cell? ⟨m_, 3, none⟩ = some (.int .i64 hi) := BM.out.cell 3
  have kM_4 : wB6.cell? ⟨m_, 4, none⟩ = some (.int .i64 pp) := BM.out.cell 4
  have kM_5 : wB6.cell? ⟨m_, 5, none⟩ = some (.int .i64 le) := BM.out.cell 5
  have kM_6 : wB6.cell? ⟨m_, 6, none⟩ = some (.int .i64 re) := BM.out.cell 6
  go_wp2_with fail
  refine (save_ok cn at_ lo hi pp le re _ SV0.out).mono ?_
  rintro e y16 ⟨AS, cS, rfl, hS, hb⟩
  clear kM_0 kM_1 kM_2 kM_3 kM_4 kM_5 kM_6
  have hbx : Below wB6.heap.size wB6 y16 := below_via (by go_grown) hb (by first | (simp; done) | (simp; omega))
  have BM := Lib.hid (BM.out.stays hbx)
  have BU := Lib.hid (BU.out.stays hbx)
  have T := Lib.hid (T.out.stays hbx)
  have VS := Lib.hid hS
  have R17 := Lib.hid (R15.out.trans (hbx.mono hz_wB6))
  have hz_y16 := R17.out.size
  clear hb hbx hS R15 hz_wB6
  go_wp2_with fail
  refine (load_made HM.out _ _ _ _ VS.out).mono ?_
  rintro e y18 ⟨rfl, hb⟩
  have hbx : Below y16.heap.size y16 y18 := below_via (by go_grown) hb (by first | (simp; done) | (simp; omega))
  have BM := Lib.hid (BM.out.stays hbx)
  have BU := Lib.hid (BU.out.stays hbx)
  have T := Lib.hid (T.out.stays hbx)
  have VS := Lib.hid (VS.out.stays hbx)
  have R19 := Lib.hid (R17.out.trans (hbx.mono hz_y16))
  have hz_y18 := R19.out.size
  clear hb hbx  R17 hz_y16
  go_upto_region 9 with fail
  obtain ⟨x20, v_, ex20, ev_⟩ : ∃ x20 v_, x20 = y18.alloc (.cells #[.int .i64 cn, .int .i64 at_, .int .i64 lo, .int .i64 hi, .int .i64 pp, .int .i64 le, .int .i64 re] 41) ∧ v_ = y18.heap.size := ⟨_, _, rfl, rfl⟩
  rw [← ex20, ← ev_]
  have hbx : Below y18.heap.size y18 x20 := by rw [ex20]; exact below_alloc1 _ _ 
  have o_M_V : m_ < v_ := by rw [ev_]; exact BM.out.lt
  have o_U_V : u_ < v_ := by rw [ev_]; exact BU.out.lt
  have g_V : w.heap.size ≤ v_ := by rw [ev_]; exact hz_y18
  have t_v_ : tb < v_ := by rw [ev_]; exact T.out.lt
  have BM := Lib.hid (BM.out.stays hbx)
  have BU := Lib.hid (BU.out.stays hbx)
  have T := Lib.hid (T.out.stays hbx)
  have BV := Lib.hid (show Blk x20 v_ 41 #[.int .i64 cn, .int .i64 at_, .int .i64 lo, .int .i64 hi, .int .i64 pp, .int .i64 le, .int .i64 re] by rw [ex20, ev_]; exact blk_new1_0 _ _ _ )
  have R21 := Lib.hid (R19.out.trans (hbx.mono hz_y18))
  have hz_x20 := R21.out.size
  clear hbx ex20 ev_ R19 hz_y18
  have K0 : Hid (knE at_ lo hi pp le re = 0) := by
    have g : knE at_ lo hi pp le re = 0 := by
      have h := HM.out
      unfold madeOk at h
      exact (if_pos (by unfold spanOk tickOk; omega)).trans (if_pos (by unfold tickOk cntOk; omega))
    exact g
  have S3 : Hid (spanOk (lo + o0) (hi + o1)) := by unfold Hid spanOk tickOk; omega
  have kV_0 : x20.cell? ⟨v_, 0, none⟩ = some (.int .i64 cn) := BV.out.cell 0
  have kV_1 : x20.cell? ⟨v_, 1, none⟩ = some (.int .i64 at_) := BV.out.cell 1
  have kV_2 : x20.cell? ⟨v_, 2, none⟩ = some (.int .i64 lo) := BV.out.cell 2
  have kV_3 : x20.cell? ⟨v_, 3, none⟩ = some (.int .i64 hi) := BV.out.cell 3
  have kV_4 : x20.cell? ⟨v_, 4, none⟩ = some (.int .i64 pp) := BV.out.cell 4
  have kV_5 : x20.cell? ⟨v_, 5, none⟩ = some (.int .i64 le) := BV.out.cell 5
  have kV_6 : x20.cell? ⟨v_, 6, none⟩ = some (.int .i64 re) := BV.out.cell 6
  have kU_0 : x20.cell? ⟨u_, 0, none⟩ = some (.int .i64 o0) := BU.out.cell 0
  have kU_1 : x20.cell? ⟨u_, 1, none⟩ = some (.int .i64 o1) := BU.out.cell 1
  go_wp2_with fail
  refine (wake_6 cn at_ lo hi pp le re o0 o1 7 _ K0.out S2.out (by omega) (by decide) S3.out).mono ?_
  rintro e y22 ⟨rfl, hb⟩
  clear kV_0 kV_1 kV_2 kV_3 kV_4 kV_5 kV_6 kU_0 kU_1
  have hbx : Below x20.heap.size x20 y22 := below_via (by go_grown) hb (by first | (simp; done) | (simp; omega))
  have BM := Lib.hid (BM.out.stays hbx)
  have BU := Lib.hid (BU.out.stays hbx)
  have BV := Lib.hid (BV.out.stays hbx)
  have T := Lib.hid (T.out.stays hbx)
  have R23 := Lib.hid (R21.out.trans (hbx.mono hz_x20))
  have hz_y22 := R23.out.size
  clear hb hbx  R21 hz_x20
  obtain ⟨x, hx⟩ : ∃ x, lo + o0 = x := ⟨_, rfl⟩
  obtain ⟨y, hy⟩ : ∃ y, hi + o1 = y := ⟨_, rfl⟩
  rw [hx, hy]
  rw [hx, hy] at S3
  have x0 : x ≤ tr + ps := by omega
  have y0 : tr + ps ≤ y := by omega
  have x1b : -1000 ≤ x ∧ x ≤ 2000 := by omega
  have y1b : -1000 ≤ y ∧ y ≤ 4000 := by omega
  clear hx hy
  go_upto_region 10 with fail
  obtain ⟨x24, k_, ex24, ek_⟩ : ∃ x24 k_, x24 = y22.alloc (.cells #[.int .i64 7, .int .i64 x, .int .i64 y, .int .i64 pp, .int .i64 0, .int .i64 0] 39) ∧ k_ = y22.heap.size := ⟨_, _, rfl, rfl⟩
  rw [← ex24, ← ek_]
  have hbx : Below y22.heap.size y22 x24 := by rw [ex24]; exact below_alloc1 _ _ 
  have o_M_K : m_ < k_ := by rw [ek_]; exact BM.out.lt
  have o_U_K : u_ < k_ := by rw [ek_]; exact BU.out.lt
  have o_V_K : v_ < k_ := by rw [ek_]; exact BV.out.lt
  have g_K : w.heap.size ≤ k_ := by rw [ek_]; exact hz_y22
  have t_k_ : tb < k_ := by rw [ek_]; exact T.out.lt
  have BM := Lib.hid (BM.out.stays hbx)
  have BU := Lib.hid (BU.out.stays hbx)
  have BV := Lib.hid (BV.out.stays hbx)
  have T := Lib.hid (T.out.stays hbx)
  have BK := Lib.hid (show Blk x24 k_ 39 #[.int .i64 7, .int .i64 x, .int .i64 y, .int .i64 pp, .int .i64 0, .int .i64 0] by rw [ex24, ek_]; exact blk_new1_0 _ _ _ )
  have R25 := Lib.hid (R23.out.trans (hbx.mono hz_y22))
  have hz_x24 := R25.out.size
  clear hbx ex24 ek_ R23 hz_y22
  have kK_0 : x24.cell? ⟨k_, 0, none⟩ = some (.int .i64 7) := BK.out.cell 0
  have kK_1 : x24.cell? ⟨k_, 1, none⟩ = some (.int .i64 x) := BK.out.cell 1
  have kK_2 : x24.cell? ⟨k_, 2, none⟩ = some (.int .i64 y) := BK.out.cell 2
  have kK_3 : x24.cell? ⟨k_, 3, none⟩ = some (.int .i64 pp) := BK.out.cell 3
  have kK_4 : x24.cell? ⟨k_, 4, none⟩ = some (.int .i64 0) := BK.out.cell 4
  have kK_5 : x24.cell? ⟨k_, 5, none⟩ = some (.int .i64 0) := BK.out.cell 5
  go_wp2_with fail
  refine (holds_yes x y (tr + ps) _ S3.out x0 y0).mono ?_
  rintro e y26 ⟨rfl, hb⟩
  clear kK_0 kK_1 kK_2 kK_3 kK_4 kK_5
  have hbx : Below x24.heap.size x24 y26 := below_via (by go_grown) hb (by first | (simp; done) | (simp; omega))
  have BM := Lib.hid (BM.out.stays hbx)
  have BU := Lib.hid (BU.out.stays hbx)
  have BV := Lib.hid (BV.out.stays hbx)
  have BK := Lib.hid (BK.out.stays hbx)
  have T := Lib.hid (T.out.stays hbx)
  have R27 := Lib.hid (R25.out.trans (hbx.mono hz_x24))
  have hz_y26 := R27.out.size
  clear hb hbx  R25 hz_x24
  go_wp2_with fail
  refine (int_in _ _ _ _ 100000 (by omega) (by omega) _ T.out).mono ?_
  rintro e y28 ⟨d, k6, rfl, d0, d1, ht, ho⟩
  have BM := Lib.hid (BM.out.grown ho (by simp; omega))
  have BU := Lib.hid (BU.out.grown ho (by simp; omega))
  have BV := Lib.hid (BV.out.grown ho (by simp; omega))
  have BK := Lib.hid (BK.out.grown ho (by simp; omega))
  have R29 := Lib.hid (below_only R27.out ho hz_y26 tgw)
  have hz_y28 := R29.out.size
  clear R27 hz_y26
  have T := Lib.hid ht
  clear ht ho
  have EB := el_bounds d pp (by omega) (by omega) (by omega) (by omega)
  obtain ⟨u, hu⟩ : ∃ u, elLo d pp = u := ⟨_, rfl⟩
  obtain ⟨v, hv⟩ : ∃ v, elHi d pp = v := ⟨_, rfl⟩
  rw [hu, hv] at EB
  obtain ⟨EB1, EB2, EB3, EB4⟩ := EB
  have S4 : Hid (spanOk (x + elLo d pp) (y + elHi d pp)) := by rw [hu, hv]; unfold Hid spanOk tickOk; omega
  have HU := Lib.hid hu
  have HV := Lib.hid hv
  clear hu hv
  have K1 : Hid (knE 7 x y pp 0 0 = 0) := (if_pos S3.out).trans (if_pos ⟨by decide, by omega, by omega, by decide, by decide⟩)
  have TK : Hid (tickOk (7 + d)) := by unfold Hid tickOk; omega
  have kK_0 : y28.cell? ⟨k_, 0, none⟩ = some (.int .i64 7) := BK.out.cell 0
  have kK_1 : y28.cell? ⟨k_, 1, none⟩ = some (.int .i64 x) := BK.out.cell 1
  have kK_2 : y28.cell? ⟨k_, 2, none⟩ = some (.int .i64 y) := BK.out.cell 2
  have kK_3 : y28.cell? ⟨k_, 3, none⟩ = some (.int .i64 pp) := BK.out.cell 3
  have kK_4 : y28.cell? ⟨k_, 4, none⟩ = some (.int .i64 0) := BK.out.cell 4
  have kK_5 : y28.cell? ⟨k_, 5, none⟩ = some (.int .i64 0) := BK.out.cell 5
  go_wp2_with fail
  refine (fits_same d pp _ (by omega) (by omega) (by omega) (by omega)).mono ?_
  rintro e q_ ⟨rfl, rfl⟩
  clear kK_0 kK_1 kK_2 kK_3 kK_4 kK_5
  have kK_0 : y28.cell? ⟨k_, 0, none⟩ = some (.int .i64 7) := BK.out.cell 0
  have kK_1 : y28.cell? ⟨k_, 1, none⟩ = some (.int .i64 x) := BK.out.cell 1
  have kK_2 : y28.cell? ⟨k_, 2, none⟩ = some (.int .i64 y) := BK.out.cell 2
  have kK_3 : y28.cell? ⟨k_, 3, none⟩ = some (.int .i64 pp) := BK.out.cell 3
  have kK_4 : y28.cell? ⟨k_, 4, none⟩ = some (.int .i64 0) := BK.out.cell 4
  have kK_5 : y28.cell? ⟨k_, 5, none⟩ = some (.int .i64 0) := BK.out.cell 5
  go_wp2_with fail
  refine (now_ok 7 x y pp d (7 + d) _ (by omega) (by omega) (by omega) (by omega) S3.out S4.out K1.out rfl TK.out (by decide)).mono ?_
  rintro e y30 ⟨rfl, hb⟩
  clear kK_0 kK_1 kK_2 kK_3 kK_4 kK_5
  have hbx : Below y28.heap.size y28 y30 := below_via (by go_grown) hb (by first | (simp; done) | (simp; omega))
  have BM := Lib.hid (BM.out.stays hbx)
  have BU := Lib.hid (BU.out.stays hbx)
  have BV := Lib.hid (BV.out.stays hbx)
  have BK := Lib.hid (BK.out.stays hbx)
  have R31 := Lib.hid (R29.out.trans (hbx.mono hz_y28))
  have hz_y30 := R31.out.size
  clear hb hbx  R29 hz_y28
  rw [HU.out, HV.out] at S4 ⊢
  go_upto_region 16 with fail
  obtain ⟨x32, w_, ex32, ew_⟩ : ∃ x32 w_, x32 = y30.alloc (.cells #[.int .i64 (x + u), .int .i64 (y + v)] 37) ∧ w_ = y30.heap.size := ⟨_, _, rfl, rfl⟩
  rw [← ex32, ← ew_]
  have hbx : Below y30.heap.size y30 x32 := by rw [ex32]; exact below_alloc1 _ _ 
  have o_M_W : m_ < w_ := by rw [ew_]; exact BM.out.lt
  have o_U_W : u_ < w_ := by rw [ew_]; exact BU.out.lt
  have o_V_W : v_ < w_ := by rw [ew_]; exact BV.out.lt
  have o_K_W : k_ < w_ := by rw [ew_]; exact BK.out.lt
  have g_W : w.heap.size ≤ w_ := by rw [ew_]; exact hz_y30
  have BM := Lib.hid (BM.out.stays hbx)
  have BU := Lib.hid (BU.out.stays hbx)
  have BV := Lib.hid (BV.out.stays hbx)
  have BK := Lib.hid (BK.out.stays hbx)
  have BW := Lib.hid (show Blk x32 w_ 37 #[.int .i64 (x + u), .int .i64 (y + v)] by rw [ex32, ew_]; exact blk_new1_0 _ _ _ )
  have R33 := Lib.hid (R31.out.trans (hbx.mono hz_y30))
  have hz_x32 := R33.out.size
  clear hbx ex32 ew_ R31 hz_y30
  go_wp2_with fail
  refine (psKnown _).mono ?_
  rintro e y34 ⟨rfl, hb⟩
  have hbx : Below x32.heap.size x32 y34 := below_via (by go_grown) hb (by first | (simp; done) | (simp; omega))
  have BM := Lib.hid (BM.out.stays hbx)
  have BU := Lib.hid (BU.out.stays hbx)
  have BV := Lib.hid (BV.out.stays hbx)
  have BK := Lib.hid (BK.out.stays hbx)
  have BW := Lib.hid (BW.out.stays hbx)
  have R35 := Lib.hid (R33.out.trans (hbx.mono hz_x32))
  have hz_y34 := R35.out.size
  clear hb hbx  R33 hz_x32
  have kW_0 : y34.cell? ⟨w_, 0, none⟩ = some (.int .i64 (x + u)) := BW.out.cell 0
  have kW_1 : y34.cell? ⟨w_, 1, none⟩ = some (.int .i64 (y + v)) := BW.out.cell 1
  go_wp2_with fail
  refine (holds_yes (x + u) (y + v) (tr + ps + d) _ S4.out (by omega) (by omega)).mono ?_
  rintro e y36 ⟨rfl, hb⟩
  clear kW_0 kW_1
  have hbx : Below y34.heap.size y34 y36 := below_via (by go_grown) hb (by first | (simp; done) | (simp; omega))
  have BM := Lib.hid (BM.out.stays hbx)
  have BU := Lib.hid (BU.out.stays hbx)
  have BV := Lib.hid (BV.out.stays hbx)
  have BK := Lib.hid (BK.out.stays hbx)
  have BW := Lib.hid (BW.out.stays hbx)
  have R37 := Lib.hid (R35.out.trans (hbx.mono hz_y34))
  have hz_y36 := R37.out.size
  clear hb hbx  R35 hz_y34
  go_wp2
  go_ret
  exact ⟨rfl, R37.out⟩
end Go.Proofs.Ytbjmojajhkhekaa
