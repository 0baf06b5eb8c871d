/- Spans and states that the tape makes. -/
import Derived.Test.YtbjmojajhkhekaaPsG
namespace Go.Proofs.Ytbjmojajhkhekaa
open Go.RowKit

theorem only_set {w w' : World} {row : Option Nat} {g : Nat} (h : w.grownBy w' row) (hg : w.heap.size ≤ g) (i : Nat) (v : Value) : w.grownBy (w'.setCell ⟨g, i, none⟩ v) row :=
  ⟨h.os, h.tape, h.output, by have := h.size; simpa using this, fun j hj hr => (Below.heap_setCell w' ⟨g, i, none⟩ v j (by simp only []; omega)).trans (h.block j hj hr)⟩
theorem only_stores {row : Option Nat} {g : Nat} {w : World} (hg : w.heap.size ≤ g) : ∀ (vs : List Value) (w' : World) (k : Nat), w.grownBy w' row → w.grownBy (stores w' g vs k) row
  | [], _, _, h => h
  | v :: vs, w', k, h => only_stores hg vs _ (k + 1) (only_set h hg k v)
theorem stores_heap' (g j : Nat) (hne : j ≠ g) : ∀ (vs : List Value) (w : World) (k : Nat), (stores w g vs k).heap[j]? = w.heap[j]?
  | [], _, _ => rfl
  | v :: vs, w, k => (stores_heap' g j hne vs _ (k + 1)).trans (Below.heap_setCell w ⟨g, k, none⟩ v j hne)
theorem tape_stores {B b g k : Nat} {l : List Int} {w : World} (vs : List Value) (h : Tape B w b l k) (h1 : B ≤ g) (h2 : b ≠ g) : Tape B (stores w g vs 0) b l k :=
  h.keep (fun j hj => stores_heap' g j (by omega) vs w 0)
set_option maxRecDepth 100000 in
set_option maxHeartbeats 4000000 in
theorem span_any (B b : Nat) (l : List Int) (k : Nat) (w : World) (h : Tape B w b l k) :
    Calls Try.prog 63 #[.pointer (some ⟨b, 0, none⟩), .int .i64 1000] w fun e w' => ∃ (lo hi : Int) (k' : Nat), e = .returned (.agg #[.int .i64 lo, .int .i64 hi]) ∧ -1000 ≤ lo ∧ lo ≤ 1000 ∧ lo ≤ hi ∧ hi ≤ lo + 1000 ∧ Tape B w' b l k' ∧ Only b w w' := by
  have tlt := h.lt
  have tge := h.ge
  have T := Lib.hid h
  clear h
  go_enter Try.func63, Try.ntmps63
  go_upto_region 1 with fail
  obtain ⟨x1, h_, ex1, eh_⟩ : ∃ x1 h_, x1 = w.alloc (.cells #[.int .i64 0, .int .i64 0] 37) ∧ h_ = w.heap.size := ⟨_, _, rfl, rfl⟩
  rw [← ex1, ← eh_]
  have hbx : Below w.heap.size w x1 := by rw [ex1]; exact below_alloc1 _ _ 
  have g_H : w.heap.size ≤ h_ := by rw [eh_]; exact Nat.le_refl _
  have BH := Lib.hid (show Blk x1 h_ 37 #[.int .i64 0, .int .i64 0] by rw [ex1, eh_]; exact blk_new1_0 _ _ _ )
  have R2 := Lib.hid hbx
  have hz_x1 := R2.out.size
  clear hbx ex1 eh_
  have O : Hid (w.grownBy x1 (some b)) := grown_of_below R2.out _
  have nbh : ¬ b = h_ := by have := tlt; omega
  have T := Lib.hid (T.out.stays R2.out)
  go_wp2_with fail
  refine (range_any _ _ _ _ (-1000) 1000 2001 (by decide) (by decide) (by decide) (by decide) (by decide) _ T.out).mono ?_
  rintro e y3 ⟨x, kk4, rfl, x0, x1, ht, ho⟩
  have BH := Lib.hid (BH.out.grown ho (by simp; omega))
  have O := Lib.hid (O.out.trans ho)
  have T := Lib.hid ht
  clear ht ho
  go_wp2_with fail
  refine (int_any _ _ _ _ 1001 (by decide) (by decide) _ T.out).mono ?_
  rintro e y5 ⟨kk6, rfl, ht, ho⟩
  have BH := Lib.hid (BH.out.grown ho (by simp; omega))
  have O := Lib.hid (O.out.trans ho)
  have T := Lib.hid ht
  clear ht ho
  obtain ⟨y, hy⟩ : ∃ y, tapeAt l kk4 % 1001 = y := ⟨_, rfl⟩
  have ly : 0 ≤ y := by rw [← hy]; exact Int.emod_nonneg _ (by decide)
  have uy : y < 1001 := by rw [← hy]; exact Int.emod_lt_of_pos _ (by decide)
  rw [hy]
  clear hy
  obtain ⟨z, hz⟩ : ∃ z : Int, x + y = z := ⟨_, rfl⟩
  have zH := BH.out.frozen
  have cH := BH.out.cell
  go_wp2
  clear zH cH
  generalize hwd : World.setCell _ ⟨h_, 1, none⟩ _ = wd
  have hwd2 : stores y5 h_ [.int .i64 x, .int .i64 z] 0 = wd := hwd
  have D1 : Blk wd h_ 37 #[.int .i64 x, .int .i64 z] := by rw [← hwd2]; exact BH.out.filled _ rfl
  have RD : w.grownBy wd (some b) := by rw [← hwd2]; exact only_stores g_H _ _ _ O.out
  have RT : Tape B wd b l kk6 := by rw [← hwd2]; exact tape_stores _ T.out (by omega) (by omega)
  clear hwd hwd2
  have d1_0 : wd.cell? ⟨h_, 0, none⟩ = some (.int .i64 x) := D1.cell 0
  have d1_1 : wd.cell? ⟨h_, 1, none⟩ = some (.int .i64 z) := D1.cell 1
  try go_wp2_with fail
  refine bodyPost_ret (v := .agg #[.int .i64 x, .int .i64 z]) (by simp [results, Try.results63, go_sem, *]) rfl ⟨x, z, _, rfl, x0, x1, by omega, by omega, RT, RD⟩
def madeOk (cn at_ lo hi pp le re : Int) : Prop := 0 ≤ cn ∧ cn < 9 ∧ -50 ≤ at_ ∧ at_ ≤ 50 ∧ -1000 ≤ lo ∧ lo ≤ 1000 ∧ lo ≤ hi ∧ hi ≤ lo + 1000 ∧ 0 ≤ pp ∧ pp < 1000 ∧ 0 ≤ le ∧ le < 9 ∧ 0 ≤ re ∧ re < 9
theorem madeOk.sv {cn at_ lo hi pp le re : Int} (h : madeOk cn at_ lo hi pp le re) : svE cn at_ lo hi pp le re = 0 := by
  unfold madeOk at h
  have h1 : spanOk lo hi := by unfold spanOk tickOk; omega
  have h2 : tickOk at_ ∧ 0 ≤ pp ∧ pp ≤ 1000000 ∧ cntOk le ∧ cntOk re := by unfold tickOk cntOk; omega
  have h3 : cntOk cn := by unfold cntOk; omega
  have hk : knE at_ lo hi pp le re = 0 := (if_pos h1).trans (if_pos h2)
  exact (if_pos hk).trans (if_pos h3)
set_option maxRecDepth 100000 in
set_option maxHeartbeats 4000000 in
theorem made_any (B b : Nat) (l : List Int) (k : Nat) (w : World) (h : Tape B w b l k) :
    Calls Try.prog 25 #[.pointer (some ⟨b, 0, none⟩)] w fun e w' => ∃ (cn at_ lo hi pp le re : Int) (k' : Nat), e = .returned (.agg #[.int .i64 cn, .int .i64 at_, .int .i64 lo, .int .i64 hi, .int .i64 pp, .int .i64 le, .int .i64 re]) ∧ madeOk cn at_ lo hi pp le re ∧ Tape B w' b l k' ∧ Only b w w' := by
  have tlt := h.lt
  have tge := h.ge
  have T := Lib.hid h
  clear h
  go_enter Try.func25, Try.ntmps25
  go_upto_region 1 with fail
  obtain ⟨x1, h_, ex1, eh_⟩ : ∃ x1 h_, x1 = w.alloc (.cells #[.int .i64 0, .int .i64 0, .int .i64 0, .int .i64 0, .int .i64 0, .int .i64 0, .int .i64 0] 41) ∧ h_ = w.heap.size := ⟨_, _, rfl, rfl⟩
  rw [← ex1, ← eh_]
  have hbx : Below w.heap.size w x1 := by rw [ex1]; exact below_alloc1 _ _ 
  have g_H : w.heap.size ≤ h_ := by rw [eh_]; exact Nat.le_refl _
  have BH := Lib.hid (show Blk x1 h_ 41 #[.int .i64 0, .int .i64 0, .int .i64 0, .int .i64 0, .int .i64 0, .int .i64 0, .int .i64 0] by rw [ex1, eh_]; exact blk_new1_0 _ _ _ )
  have R2 := Lib.hid hbx
  have hz_x1 := R2.out.size
  clear hbx ex1 eh_
  have O : Hid (w.grownBy x1 (some b)) := grown_of_below R2.out _
  have nbh : ¬ b = h_ := by have := tlt; omega
  have T := Lib.hid (T.out.stays R2.out)
  go_wp2_with fail
  refine (int_any _ _ _ _ 9 (by decide) (by decide) _ T.out).mono ?_
  rintro e y3 ⟨kk4, rfl, ht, ho⟩
  have BH := Lib.hid (BH.out.grown ho (by simp; omega))
  have O := Lib.hid (O.out.trans ho)
  have T := Lib.hid ht
  clear ht ho
  obtain ⟨cn, hcn⟩ : ∃ cn, tapeAt l k % 9 = cn := ⟨_, rfl⟩
  have lcn : 0 ≤ cn := by rw [← hcn]; exact Int.emod_nonneg _ (by decide)
  have ucn : cn < 9 := by rw [← hcn]; exact Int.emod_lt_of_pos _ (by decide)
  rw [hcn]
  clear hcn
  go_wp2_with fail
  refine (range_any _ _ _ _ (-50) 50 101 (by decide) (by decide) (by decide) (by decide) (by decide) _ T.out).mono ?_
  rintro e y5 ⟨at_, kk6, rfl, at0, at1, ht, ho⟩
  have BH := Lib.hid (BH.out.grown ho (by simp; omega))
  have O := Lib.hid (O.out.trans ho)
  have T := Lib.hid ht
  clear ht ho
  go_wp2_with fail
  refine (span_any _ _ _ _ _ T.out).mono ?_
  rintro e y7 ⟨lo, hi, kk8, rfl, lo0, lo1, hi0, hi1, ht, ho⟩
  have BH := Lib.hid (BH.out.grown ho (by simp; omega))
  have O := Lib.hid (O.out.trans ho)
  have T := Lib.hid ht
  clear ht ho
  go_wp2_with fail
  refine (int_any _ _ _ _ 1000 (by decide) (by decide) _ T.out).mono ?_
  rintro e y9 ⟨kk10, rfl, ht, ho⟩
  have BH := Lib.hid (BH.out.grown ho (by simp; omega))
  have O := Lib.hid (O.out.trans ho)
  have T := Lib.hid ht
  clear ht ho
  obtain ⟨pp, hpp⟩ : ∃ pp, tapeAt l kk8 % 1000 = pp := ⟨_, rfl⟩
  have lpp : 0 ≤ pp := by rw [← hpp]; exact Int.emod_nonneg _ (by decide)
  have upp : pp < 1000 := by rw [← hpp]; exact Int.emod_lt_of_pos _ (by decide)
  rw [hpp]
  clear hpp
  go_wp2_with fail
  refine (int_any _ _ _ _ 9 (by decide) (by decide) _ T.out).mono ?_
  rintro e y11 ⟨kk12, rfl, ht, ho⟩
  have BH := Lib.hid (BH.out.grown ho (by simp; omega))
  have O := Lib.hid (O.out.trans ho)
  have T := Lib.hid ht
  clear ht ho
  obtain ⟨le, hle⟩ : ∃ le, tapeAt l kk10 % 9 = le := ⟨_, rfl⟩
  have lle : 0 ≤ le := by rw [← hle]; exact Int.emod_nonneg _ (by decide)
  have ule : le < 9 := by rw [← hle]; exact Int.emod_lt_of_pos _ (by decide)
  rw [hle]
  clear hle
  go_wp2_with fail
  refine (int_any _ _ _ _ 9 (by decide) (by decide) _ T.out).mono ?_
  rintro e y13 ⟨kk14, rfl, ht, ho⟩
  have BH := Lib.hid (BH.out.grown ho (by simp; omega))
  have O := Lib.hid (O.out.trans ho)
  have T := Lib.hid ht
  clear ht ho
  obtain ⟨re, hre⟩ : ∃ re, tapeAt l kk12 % 9 = re := ⟨_, rfl⟩
  have lre : 0 ≤ re := by rw [← hre]; exact Int.emod_nonneg _ (by decide)
  have ure : re < 9 := by rw [← hre]; exact Int.emod_lt_of_pos _ (by decide)
  rw [hre]
  clear hre
  have HM : Hid (madeOk cn at_ lo hi pp le re) := ⟨lcn, ucn, at0, at1, lo0, lo1, hi0, hi1, lpp, upp, lle, ule, lre, ure⟩
  have zH := BH.out.frozen
  have cH := BH.out.cell
  go_wp2
  clear zH cH
  generalize hwd : World.setCell _ ⟨h_, 6, none⟩ _ = wd
  have hwd2 : stores y13 h_ [.int .i64 cn, .int .i64 at_, .int .i64 lo, .int .i64 hi, .int .i64 pp, .int .i64 le, .int .i64 re] 0 = wd := hwd
  have D1 : Blk wd h_ 41 #[.int .i64 cn, .int .i64 at_, .int .i64 lo, .int .i64 hi, .int .i64 pp, .int .i64 le, .int .i64 re] := by rw [← hwd2]; exact BH.out.filled _ rfl
  have RD : w.grownBy wd (some b) := by rw [← hwd2]; exact only_stores g_H _ _ _ O.out
  have RT : Tape B wd b l kk14 := by rw [← hwd2]; exact tape_stores _ T.out (by omega) (by omega)
  clear hwd hwd2
  have d1_0 : wd.cell? ⟨h_, 0, none⟩ = some (.int .i64 cn) := D1.cell 0
  have d1_1 : wd.cell? ⟨h_, 1, none⟩ = some (.int .i64 at_) := D1.cell 1
  have d1_2 : wd.cell? ⟨h_, 2, none⟩ = some (.int .i64 lo) := D1.cell 2
  have d1_3 : wd.cell? ⟨h_, 3, none⟩ = some (.int .i64 hi) := D1.cell 3
  have d1_4 : wd.cell? ⟨h_, 4, none⟩ = some (.int .i64 pp) := D1.cell 4
  have d1_5 : wd.cell? ⟨h_, 5, none⟩ = some (.int .i64 le) := D1.cell 5
  have d1_6 : wd.cell? ⟨h_, 6, none⟩ = some (.int .i64 re) := D1.cell 6
  try go_wp2_with fail
  refine bodyPost_ret (v := .agg #[.int .i64 cn, .int .i64 at_, .int .i64 lo, .int .i64 hi, .int .i64 pp, .int .i64 le, .int .i64 re]) (by simp [results, Try.results25, go_sem, *]) rfl ⟨cn, at_, lo, hi, pp, le, re, _, rfl, HM.out, RT, RD⟩
end Go.Proofs.Ytbjmojajhkhekaa
