/- Rows with zeros behind what was appended; extension.size, Size, and the reference's Size. -/
import Derived.Test.YtofadjcphaehcaaExtL
import Derived.Test.YtofadjcphaehcaaTakeZ
import Derived.Test.YtofadjcphaehcaaBlks
import Derived.Test.YtofadjcphaehcaaSl
import Derived.Test.YtofadjcphaehcaaClone
import Derived.Deep.DeepCutAuto
namespace Go.Proofs.Ytofadjcphaehcaa
open Go.RowKit

/-- n bytes: those of L, and zeros. -/
def rowB (n : Nat) (L : List UInt8) : Array Value := ((L ++ List.replicate (n - L.length) 0).map byteV).toArray
theorem rowB_size (n : Nat) (L : List UInt8) (h : L.length ≤ n) : (rowB n L).size = n := by simp [rowB]; omega
theorem rowB_zero (n : Nat) : madeCells #[Value.int .u8 0] n = rowB n [] := by
  apply Array.toList_inj.mp
  rw [toList_madeCells_one]; simp [rowB, byteV]
theorem rowB_cat (n k m : Nat) (L P : List UInt8) (hk : L.length = k) (hm : P.length = m) (h : k + m ≤ n) : ((rowB n L).toList.take k ++ P.map byteV ++ (rowB n L).toList.drop (k + m)).toArray = rowB n (L ++ P) := by
  unfold rowB
  congr 1
  rw [← List.map_take, ← List.map_drop, ← List.map_append, ← List.map_append, List.take_left' hk, List.drop_append, List.drop_eq_nil_of_le (by omega), List.nil_append, List.drop_replicate, List.length_append, hk, hm]
  congr 3
  omega
theorem row_bytesN {w : World} {g T n m : Nat} {L : List UInt8} (h : Blk w g T (rowB n L)) (hl : L.length ≤ n) (hm : m ≤ n) (hn : n ≤ maxLen) : Bytes w (some ⟨g, 0, none⟩) m n ((L ++ List.replicate (n - L.length) 0).take m) := by
  refine ⟨by simp; omega, hm, hn, fun i u hu => ⟨g, 0, rfl, ?_⟩⟩
  rw [Nat.zero_add, h.cell i]
  rw [List.map_take, List.getElem?_take] at hu
  split at hu
  · rw [rowB, List.getElem?_toArray]; exact hu
  · cases hu
theorem run_append_nil {P : Program} {w : World} {t e n c c2 : Nat} {i : TypeInfo} {a : Addr} (ty : TypeId) (ht : P.underlying t = some (.slice e)) (hi : P.info? e = some i) (hn : n ≤ c) :
    (Builtin.append_ #[t, t] ty #[.slice (some a) n c, .slice none 0 c2]).run P w = .ok (.slice (some a) n c) w := by
  simp [Builtin.append_, run_underlying ht, sizeOf, typeInfo, hi, Builtin.lenOf, Builtin.firstCells, hn, storeCells]
theorem ret_int {k : IntKind} {a b : Int} (h : a = b) : Ending.returned (.int k a) = .returned (.int k b) := by rw [h]
theorem ret_two {a b c d : Int} (h : a = b) (h2 : c = d) : Ending.returned (.tuple #[.int .i64 a, .int .i64 c]) = .returned (.tuple #[.int .i64 b, .int .i64 d]) := by rw [h, h2]
theorem run_room {w : World} {g n k m c : Nat} {A : Option Addr} {L P : List UInt8} (hB : Blk w g 5 (rowB n L)) (hk : L.length = k) (hP : Bytes w A m c P) (hr : k + m ≤ n) (ty : TypeId) :
    ∃ w', (Builtin.append_ #[23, 23] ty #[.slice (some ⟨g, 0, none⟩) k n, .slice A m c]).run Try.prog w = .ok (.slice (some ⟨g, 0, none⟩) (k + m) n) w' ∧ Blk w' g 5 (rowB n (L ++ P)) ∧ w.grownBy w' (some g) := by
  obtain ⟨i0, hi, hz0, hz1, hz2⟩ := info_parts infoByteA
  have hl := hP.len
  cases A with
  | none =>
    have hm0 : m = 0 := by
      rcases Nat.eq_zero_or_pos m with h | h
      · exact h
      · obtain ⟨b, off, e, _⟩ := hP.at_ h
        cases e
    subst hm0
    have hp : P = [] := List.eq_nil_of_length_eq_zero hl
    subst hp
    refine ⟨w, ?_, by simpa using hB, World.grownBy.refl w _⟩
    show (Builtin.append_ _ _ _).run _ _ = .ok (.slice (some ⟨g, 0, none⟩) k n) w
    exact run_append_nil ty Try.underlying23 hi (by omega)
  | some ad =>
    have hs := rowB_size n L (by omega)
    have hrun := run_append_room (P := Try.prog) w 23 ty 5 i0 Try.underlying23 hi g k n (rowB n L) hB ad m c (P.map byteV) (by rw [hz1]; simpa using hl) (fun j u hu => by
      obtain ⟨b, off, e, hc⟩ := hP.2.2.2 j u hu
      simp only [Option.some.injEq] at e
      subst e
      rw [add_off]; exact hc) (oneCell_bytes P) hr (by rw [hz1, hs, List.length_map]; omega)
    refine ⟨_, hrun, ?_, ?_⟩
    · have h1 := setRow_heap w g (rowB n L) (((rowB n L).toList.take (k * i0.size) ++ P.map byteV ++ (rowB n L).toList.drop (k * i0.size + (P.map byteV).length)).toArray) 5 (0, 0) hB
      rw [hz1, Nat.mul_one, List.length_map, hl, rowB_cat n k m L P hk hl hr] at h1
      rw [hz1, Nat.mul_one, List.length_map, hl, rowB_cat n k m L P hk hl hr]
      exact h1
    · exact ⟨rfl, rfl, rfl, by simp, fun j _ hj => setRow_other w g j _ (fun e => hj (by rw [e]))⟩
theorem size_any (n : Nat) (hn : n ≤ 1000000) (w : World) : Calls Try.prog 74 #[.int .i64 n] w fun e w' => e = .returned (.int .i64 (exSz n : Nat)) ∧ w = w' := by
  have h : ((exSz n : Nat) : Int) = max 16 ((4 + (n : Int) + 3) / 4 * 4) := by unfold exSz; omega
  have H := Lib.hid h
  clear h
  go_enter Try.func74, Try.ntmps74
  go_wp2
  all_goals
    go_ret
    exact ⟨by rw [H.out]; exact ret_int (by omega), rfl⟩
set_option maxRecDepth 100000 in
set_option maxHeartbeats 2000000 in
theorem sizeE_any (t : Int) (A : Option Addr) (n c : Nat) (l : List UInt8) (w : World) (hl : l.length = n) (hn : n ≤ 100000) :
    Calls Try.prog 33 #[.agg #[.int .i64 t, .slice A n c]] w fun e w' => e = .returned (.tuple #[.int .i64 ((sizeX (t, l)).1 : Nat), .int .i64 (sizeX (t, l)).2]) ∧ Below w.heap.size w w' := by
  have hz := exSz_ge n
  by_cases h1 : t < 0
  · have H : Hid (sizeX (t, l) = (0, 4)) := by unfold Hid sizeX; rw [if_pos (.inl h1)]
    clear hl
    go_enter Try.func33, Try.ntmps33
    go_upto_region 1 with fail
    obtain ⟨x1, f_, ex1, ef_⟩ : ∃ x1 f_, x1 = w.alloc (.cells #[.int .i64 t, .slice A n c] 38) ∧ f_ = w.heap.size := ⟨_, _, rfl, rfl⟩
    rw [← ex1, ← ef_]
    have hbx : Below w.heap.size w x1 := by rw [ex1]; exact below_alloc1 _ _ 
    have g_F : w.heap.size ≤ f_ := by rw [ef_]; exact Nat.le_refl _
    have BF := Lib.hid (show Blk x1 f_ 38 #[.int .i64 t, .slice A n c] by rw [ex1, ef_]; exact blk_new1_0 _ _ _ )
    have R2 := Lib.hid hbx
    have hz_x1 := R2.out.size
    clear hbx ex1 ef_
    have kF_0 : x1.cell? ⟨f_, 0, none⟩ = some (.int .i64 t) := BF.out.cell 0
    have kF_1 : x1.cell? ⟨f_, 1, none⟩ = some (.slice A n c) := BF.out.cell 1
    go_wp2
    all_goals
      go_ret2
      first | exact ⟨by rw [H.out]; rfl, R2.out⟩ | (exfalso; omega)
  by_cases h2 : 65535 < t
  · have H : Hid (sizeX (t, l) = (0, 4)) := by unfold Hid sizeX; rw [if_pos (.inr h2)]
    clear hl
    go_enter Try.func33, Try.ntmps33
    go_upto_region 1 with fail
    obtain ⟨x1, f_, ex1, ef_⟩ : ∃ x1 f_, x1 = w.alloc (.cells #[.int .i64 t, .slice A n c] 38) ∧ f_ = w.heap.size := ⟨_, _, rfl, rfl⟩
    rw [← ex1, ← ef_]
    have hbx : Below w.heap.size w x1 := by rw [ex1]; exact below_alloc1 _ _ 
    have g_F : w.heap.size ≤ f_ := by rw [ef_]; exact Nat.le_refl _
    have BF := Lib.hid (show Blk x1 f_ 38 #[.int .i64 t, .slice A n c] by rw [ex1, ef_]; exact blk_new1_0 _ _ _ )
    have R2 := Lib.hid hbx
    have hz_x1 := R2.out.size
    clear hbx ex1 ef_
    have kF_0 : x1.cell? ⟨f_, 0, none⟩ = some (.int .i64 t) := BF.out.cell 0
    have kF_1 : x1.cell? ⟨f_, 1, none⟩ = some (.slice A n c) := BF.out.cell 1
    go_wp2
    all_goals
      go_ret2
      first | exact ⟨by rw [H.out]; rfl, R2.out⟩ | (exfalso; omega)
  by_cases h3 : 1232 < exSz n
  · have H : Hid (sizeX (t, l) = (0, 2)) := by unfold Hid sizeX; rw [if_neg (by simp only []; omega), hl, if_pos h3]
    obtain ⟨q, hq⟩ : ∃ q, exSz n = q := ⟨_, rfl⟩
    have h5 : (1232 : Int) < (exSz n : Nat) := by omega
    clear hl
    go_enter Try.func33, Try.ntmps33
    go_upto_region 1 with fail
    obtain ⟨x1, f_, ex1, ef_⟩ : ∃ x1 f_, x1 = w.alloc (.cells #[.int .i64 t, .slice A n c] 38) ∧ f_ = w.heap.size := ⟨_, _, rfl, rfl⟩
    rw [← ex1, ← ef_]
    have hbx : Below w.heap.size w x1 := by rw [ex1]; exact below_alloc1 _ _ 
    have g_F : w.heap.size ≤ f_ := by rw [ef_]; exact Nat.le_refl _
    have BF := Lib.hid (show Blk x1 f_ 38 #[.int .i64 t, .slice A n c] by rw [ex1, ef_]; exact blk_new1_0 _ _ _ )
    have R2 := Lib.hid hbx
    have hz_x1 := R2.out.size
    clear hbx ex1 ef_
    have kF_0 : x1.cell? ⟨f_, 0, none⟩ = some (.int .i64 t) := BF.out.cell 0
    have kF_1 : x1.cell? ⟨f_, 1, none⟩ = some (.slice A n c) := BF.out.cell 1
    go_wp2_with fail
    refine (size_any n (by omega) _).mono ?_
    rintro e q_ ⟨rfl, rfl⟩
    go_wp2
    all_goals
      go_ret2
      first | exact ⟨by rw [H.out]; rfl, R2.out⟩ | (exfalso; omega)
  · have H : Hid (sizeX (t, l) = (exSz n, 0)) := by unfold Hid sizeX; rw [if_neg (by simp only []; omega), hl, if_neg h3]
    have h5 : ¬ (1232 : Int) < (exSz n : Nat) := by omega
    clear hl
    go_enter Try.func33, Try.ntmps33
    go_upto_region 1 with fail
    obtain ⟨x1, f_, ex1, ef_⟩ : ∃ x1 f_, x1 = w.alloc (.cells #[.int .i64 t, .slice A n c] 38) ∧ f_ = w.heap.size := ⟨_, _, rfl, rfl⟩
    rw [← ex1, ← ef_]
    have hbx : Below w.heap.size w x1 := by rw [ex1]; exact below_alloc1 _ _ 
    have g_F : w.heap.size ≤ f_ := by rw [ef_]; exact Nat.le_refl _
    have BF := Lib.hid (show Blk x1 f_ 38 #[.int .i64 t, .slice A n c] by rw [ex1, ef_]; exact blk_new1_0 _ _ _ )
    have R2 := Lib.hid hbx
    have hz_x1 := R2.out.size
    clear hbx ex1 ef_
    have kF_0 : x1.cell? ⟨f_, 0, none⟩ = some (.int .i64 t) := BF.out.cell 0
    have kF_1 : x1.cell? ⟨f_, 1, none⟩ = some (.slice A n c) := BF.out.cell 1
    go_wp2_with fail
    refine (size_any n (by omega) _).mono ?_
    rintro e q_ ⟨rfl, rfl⟩
    go_wp2_with fail
    refine (size_any n (by omega) _).mono ?_
    rintro e q_ ⟨rfl, rfl⟩
    go_wp2
    all_goals
      go_ret2
      first | exact ⟨by rw [H.out]; rfl, R2.out⟩ | (exfalso; omega)
set_option maxRecDepth 100000 in
set_option maxHeartbeats 2000000 in
theorem refSizeE_any (t : Int) (A : Option Addr) (n c : Nat) (l : List UInt8) (w : World) (hl : l.length = n) (hn : n ≤ 100000) :
    Calls Try.prog 36 #[.agg #[.int .i64 t, .slice A n c]] w fun e w' => e = .returned (.tuple #[.int .i64 ((sizeX (t, l)).1 : Nat), .int .i64 (sizeX (t, l)).2]) ∧ Below w.heap.size w w' := by
  have hz := exSz_ge n
  by_cases h1 : t < 0
  · have H : Hid (sizeX (t, l) = (0, 4)) := by unfold Hid sizeX; rw [if_pos (.inl h1)]
    clear hl
    go_enter Try.func36, Try.ntmps36
    go_upto_region 1 with fail
    obtain ⟨x1, f_, ex1, ef_⟩ : ∃ x1 f_, x1 = w.alloc (.cells #[.int .i64 t, .slice A n c] 38) ∧ f_ = w.heap.size := ⟨_, _, rfl, rfl⟩
    rw [← ex1, ← ef_]
    have hbx : Below w.heap.size w x1 := by rw [ex1]; exact below_alloc1 _ _ 
    have g_F : w.heap.size ≤ f_ := by rw [ef_]; exact Nat.le_refl _
    have BF := Lib.hid (show Blk x1 f_ 38 #[.int .i64 t, .slice A n c] by rw [ex1, ef_]; exact blk_new1_0 _ _ _ )
    have R2 := Lib.hid hbx
    have hz_x1 := R2.out.size
    clear hbx ex1 ef_
    have kF_0 : x1.cell? ⟨f_, 0, none⟩ = some (.int .i64 t) := BF.out.cell 0
    have kF_1 : x1.cell? ⟨f_, 1, none⟩ = some (.slice A n c) := BF.out.cell 1
    go_wp2
    all_goals
      go_ret2
      first | exact ⟨by rw [H.out]; rfl, R2.out⟩ | (exfalso; omega)
  by_cases h2 : 65535 < t
  · have H : Hid (sizeX (t, l) = (0, 4)) := by unfold Hid sizeX; rw [if_pos (.inr h2)]
    clear hl
    go_enter Try.func36, Try.ntmps36
    go_upto_region 1 with fail
    obtain ⟨x1, f_, ex1, ef_⟩ : ∃ x1 f_, x1 = w.alloc (.cells #[.int .i64 t, .slice A n c] 38) ∧ f_ = w.heap.size := ⟨_, _, rfl, rfl⟩
    rw [← ex1, ← ef_]
    have hbx : Below w.heap.size w x1 := by rw [ex1]; exact below_alloc1 _ _ 
    have g_F : w.heap.size ≤ f_ := by rw [ef_]; exact Nat.le_refl _
    have BF := Lib.hid (show Blk x1 f_ 38 #[.int .i64 t, .slice A n c] by rw [ex1, ef_]; exact blk_new1_0 _ _ _ )
    have R2 := Lib.hid hbx
    have hz_x1 := R2.out.size
    clear hbx ex1 ef_
    have kF_0 : x1.cell? ⟨f_, 0, none⟩ = some (.int .i64 t) := BF.out.cell 0
    have kF_1 : x1.cell? ⟨f_, 1, none⟩ = some (.slice A n c) := BF.out.cell 1
    go_wp2
    all_goals
      go_ret2
      first | exact ⟨by rw [H.out]; rfl, R2.out⟩ | (exfalso; omega)
  by_cases h3 : 1232 < exSz n
  · have H : Hid (sizeX (t, l) = (0, 2)) := by unfold Hid sizeX; rw [if_neg (by simp only []; omega), hl, if_pos h3]
    by_cases h4 : 1232 < n
    · have h5 : (1232 : Int) < (n : Int) := by omega
      clear hl
      go_enter Try.func36, Try.ntmps36
      go_upto_region 1 with fail
      obtain ⟨x1, f_, ex1, ef_⟩ : ∃ x1 f_, x1 = w.alloc (.cells #[.int .i64 t, .slice A n c] 38) ∧ f_ = w.heap.size := ⟨_, _, rfl, rfl⟩
      rw [← ex1, ← ef_]
      have hbx : Below w.heap.size w x1 := by rw [ex1]; exact below_alloc1 _ _ 
      have g_F : w.heap.size ≤ f_ := by rw [ef_]; exact Nat.le_refl _
      have BF := Lib.hid (show Blk x1 f_ 38 #[.int .i64 t, .slice A n c] by rw [ex1, ef_]; exact blk_new1_0 _ _ _ )
      have R2 := Lib.hid hbx
      have hz_x1 := R2.out.size
      clear hbx ex1 ef_
      have kF_0 : x1.cell? ⟨f_, 0, none⟩ = some (.int .i64 t) := BF.out.cell 0
      have kF_1 : x1.cell? ⟨f_, 1, none⟩ = some (.slice A n c) := BF.out.cell 1
      go_wp2
      all_goals
        go_ret2
        first | exact ⟨by rw [H.out]; rfl, R2.out⟩ | (exfalso; omega)
    · have h5 : ¬ (1232 : Int) < (n : Int) := by omega
      have h6 : (1232 : Int) < max 16 ((4 + (n : Int) + 3) / 4 * 4) := by unfold exSz at h3; omega
      clear hl
      go_enter Try.func36, Try.ntmps36
      go_upto_region 1 with fail
      obtain ⟨x1, f_, ex1, ef_⟩ : ∃ x1 f_, x1 = w.alloc (.cells #[.int .i64 t, .slice A n c] 38) ∧ f_ = w.heap.size := ⟨_, _, rfl, rfl⟩
      rw [← ex1, ← ef_]
      have hbx : Below w.heap.size w x1 := by rw [ex1]; exact below_alloc1 _ _ 
      have g_F : w.heap.size ≤ f_ := by rw [ef_]; exact Nat.le_refl _
      have BF := Lib.hid (show Blk x1 f_ 38 #[.int .i64 t, .slice A n c] by rw [ex1, ef_]; exact blk_new1_0 _ _ _ )
      have R2 := Lib.hid hbx
      have hz_x1 := R2.out.size
      clear hbx ex1 ef_
      have kF_0 : x1.cell? ⟨f_, 0, none⟩ = some (.int .i64 t) := BF.out.cell 0
      have kF_1 : x1.cell? ⟨f_, 1, none⟩ = some (.slice A n c) := BF.out.cell 1
      go_wp2
      all_goals
        go_ret2
        first | exact ⟨by rw [H.out]; rfl, R2.out⟩ | (exfalso; omega)
  · have H : Hid (sizeX (t, l) = (exSz n, 0)) := by unfold Hid sizeX; rw [if_neg (by simp only []; omega), hl, if_neg h3]
    have h5 : ¬ (1232 : Int) < (n : Int) := by omega
    have h6 : ((exSz n : Nat) : Int) = max 16 ((4 + (n : Int) + 3) / 4 * 4) := by unfold exSz; omega
    have h7 : ¬ (1232 : Int) < max 16 ((4 + (n : Int) + 3) / 4 * 4) := by omega
    have H6 := Lib.hid h6
    clear h6
    clear hl
    go_enter Try.func36, Try.ntmps36
    go_upto_region 1 with fail
    obtain ⟨x1, f_, ex1, ef_⟩ : ∃ x1 f_, x1 = w.alloc (.cells #[.int .i64 t, .slice A n c] 38) ∧ f_ = w.heap.size := ⟨_, _, rfl, rfl⟩
    rw [← ex1, ← ef_]
    have hbx : Below w.heap.size w x1 := by rw [ex1]; exact below_alloc1 _ _ 
    have g_F : w.heap.size ≤ f_ := by rw [ef_]; exact Nat.le_refl _
    have BF := Lib.hid (show Blk x1 f_ 38 #[.int .i64 t, .slice A n c] by rw [ex1, ef_]; exact blk_new1_0 _ _ _ )
    have R2 := Lib.hid hbx
    have hz_x1 := R2.out.size
    clear hbx ex1 ef_
    have kF_0 : x1.cell? ⟨f_, 0, none⟩ = some (.int .i64 t) := BF.out.cell 0
    have kF_1 : x1.cell? ⟨f_, 1, none⟩ = some (.slice A n c) := BF.out.cell 1
    go_wp2
    all_goals
      go_ret2
      first | exact ⟨by rw [H.out]; exact ret_two (by have := H6.out; simp only []; omega) rfl, R2.out⟩ | (exfalso; omega)
end Go.Proofs.Ytofadjcphaehcaa
