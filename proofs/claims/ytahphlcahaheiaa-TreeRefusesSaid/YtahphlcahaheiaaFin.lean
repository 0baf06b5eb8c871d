/- hash: finish. -/
import Derived.Test.YtahphlcahaheiaaSum
import Derived.Test.YtahphlcahaheiaaRefSum
import Derived.Deep.RegionLaw
import Derived.Deep.DeepCutAuto
namespace Go.Proofs.Ytahphlcahaheiaa
open Go.RowKit

theorem Bytes.cpl {w : World} {A : Option Addr} {n c : Nat} {l : List UInt8} (h : Bytes w A n c l) (m : Nat) (hm : n ≤ m) : (l.map byteV).length = Nat.min n m := by
  rw [List.length_map, h.len]; exact (Nat.min_eq_left hm).symm
theorem Bytes.src {w : World} {A : Option Addr} {n c : Nat} {l : List UInt8} (h : Bytes w A n c l) (a : Option Addr) : 0 < (l.map byteV).length → a = a ∧ ∃ ad, A = some ad ∧ ∀ j v, (l.map byteV)[j]? = some v → w.cell? (ad.add j) = some v := by
  intro hp
  rw [List.length_map, h.len] at hp
  obtain ⟨b, off, e, _⟩ := h.at_ (i := 0) hp
  refine ⟨rfl, _, e, fun j v hj => ?_⟩
  obtain ⟨b', off', e', hc'⟩ := h.2.2.2 j v hj
  rw [e] at e'
  simp only [Option.some.injEq, Addr.mk.injEq, and_true] at e'
  obtain ⟨rfl, rfl⟩ := e'
  rw [add_off]
  exact hc'
/-- The row of 128 bytes: those of l, and zeros. -/
def rowL (l : List UInt8) : List Value := (l ++ List.replicate (128 - l.length) 0).map byteV
def rowA (l : List UInt8) : Array Value := (rowL l).toArray
theorem rowL_len (l : List UInt8) (h : l.length ≤ 128) : (rowL l).length = 128 := by simp [rowL]; omega
theorem rowL_copy (m P : List UInt8) (k : Nat) (h1 : m.length ≤ k) (h2 : k + P.length ≤ 128) : splice (rowL m) k (P.map byteV) = rowL (m ++ (List.replicate (k - m.length) 0 ++ P)) := by
  have ha : (m ++ List.replicate (128 - m.length) 0).take k = m ++ List.replicate (k - m.length) (0 : UInt8) := by
    rw [List.take_append, List.take_of_length_le h1, List.take_replicate, Nat.min_eq_left (by omega)]
  have hb : (m ++ List.replicate (128 - m.length) 0).drop (k + P.length) = List.replicate (128 - (m ++ (List.replicate (k - m.length) 0 ++ P)).length) (0 : UInt8) := by
    rw [List.drop_append, List.drop_of_length_le (by omega), List.nil_append, List.drop_replicate]
    congr 1
    simp; omega
  unfold splice rowL
  rw [← List.map_take, List.length_map, ← List.map_drop, ha, hb, ← List.map_append, ← List.map_append]
  congr 1
  simp only [List.append_assoc]
theorem pad_split (l : List UInt8) (n c k : Nat) (hl : l.length = n) (hk : k = n + 1 + padN n) (h : k ≤ 120) : splice (rowL (l ++ [128])) k ((putL (cnt8 c) 8).map byteV) = rowL (l ++ padL n c) := by
  rw [rowL_copy _ _ _ (by simp; omega) (by rw [putL_length]; omega), padL_cnt, List.append_assoc]
  congr 3
  simp only [List.singleton_append, List.length_append, List.length_cons, List.length_nil, hl]
  rw [show k - (n + (0 + 1)) = padN n by omega]
def z128 : List Value := List.replicate 128 (.int .u8 0)
theorem rowA_copy (l : List UInt8) : (splice z128 0 (l.map byteV)).toArray = rowA l := by
  have key : ∀ m : Nat, splice (List.replicate m (Value.int .u8 0)) 0 (l.map byteV) = (l ++ List.replicate (m - l.length) 0).map byteV := by
    intro m
    simp [splice, byteV, List.drop_replicate]
  rw [z128, key, rowA, rowL]
theorem z128_len : z128.length = 128 := List.length_replicate
theorem rowA_at (l : List UInt8) (i : Nat) (h : i < 128) (hl : l.length ≤ 128) : ∃ v, (rowA l)[i]? = some v := by
  refine ⟨_, Array.getElem?_eq_getElem ?_⟩
  simp [rowA, rowL]; omega
theorem rowA_set (l : List UInt8) (n : Nat) (hn : l.length = n) (h : n < 128) (x : UInt8) : (rowA l).setIfInBounds n (.int .u8 x.toNat) = rowA (l ++ [x]) := by
  subst hn
  simp only [rowA, rowL, List.setIfInBounds_toArray]
  congr 1
  rw [show 128 - l.length = (128 - (l ++ [x]).length) + 1 by simp; omega, List.replicate_succ, List.map_append, List.set_append_right _ _ (by simp)]
  simp [byteV]

theorem row_bytes {w : World} {g : Nat} {t : TypeId} {L : List UInt8} {m : Nat} (h : Blk w g t (rowL L).toArray) (hl : L.length = m) (hm : m ≤ 128) : Bytes w (some ⟨g, 0, none⟩) m 128 L := by
  refine ⟨by simpa using hl, hm, by decide, fun i u hu => ⟨g, 0, rfl, ?_⟩⟩
  rw [Nat.zero_add, h.cell i, List.getElem?_toArray]
  have hi : i < (L.map byteV).length := by
    rcases Nat.lt_or_ge i (L.map byteV).length with hlt | hge
    · exact hlt
    · rw [List.getElem?_eq_none hge] at hu; cases hu
  unfold rowL
  rw [List.map_append, List.getElem?_append_left hi]
  exact hu
set_option maxRecDepth 100000 in
theorem idx8 (T : St) (k : Nat) (h : k < 8) : ∀ W : World, (Instr.index 101 (.agg #[.int .u32 T.a, .int .u32 T.b, .int .u32 T.c, .int .u32 T.d, .int .u32 T.e, .int .u32 T.f, .int .u32 T.g, .int .u32 T.h]) (.int .i64 k)).run Try.prog W = .ok (.int .u32 (wAt (stL T) k)) W := by
  match k, h with
  | 0, _ | 1, _ | 2, _ | 3, _ | 4, _ | 5, _ | 6, _ | 7, _ => exact fun _ => by kernel_rfl
theorem put4_cells (x : Nat) (hx : x < 4294967296) : (putL x 4).map byteV = [.int .u8 ((x : Int) / 16777216), .int .u8 ((x : Int) / 65536 % 256), .int .u8 ((x : Int) / 256 % 256), .int .u8 ((x : Int) % 256)] := by
  simp [putL, byteV]; omega
theorem rd_lit4 (w : World) (e : TypeId) (a b c d : Value) : Rd (w.alloc (.cells #[a, b, c, d] e)) 1 (some ⟨w.heap.size, 0, none⟩) 4 4 [a, b, c, d] := by
  refine ⟨rfl, Nat.le_refl _, by decide, fun i u hu => ⟨w.heap.size, 0, rfl, ?_⟩⟩
  rw [Nat.zero_add, cell_of_row _ _ _ _ _ (0, 0) (heap_alloc_new _ _), ← hu]
  simp
theorem size_made32 : (madeCells #[Value.int .u8 0] 32).size = 32 * 1 := by
  have := congrArg List.length (toList_madeCells_one (.int .u8 0) 32)
  simpa using this
theorem own_made32 (w : World) : (w.alloc (.cells (madeCells #[.int .u8 0] 32) 5)).ownsRow w.heap.size 5 1 (.slice (some ⟨w.heap.size, 0, none⟩) 0 32) 0 [] :=
  ⟨rfl, .inr ⟨w.heap.size, 32, _, rfl, Nat.le_refl _, heap_alloc_new _ _, by omega, by decide, by rw [size_made32], rfl⟩⟩
theorem make_32 (w : World) : (Instr.makeSlice 22 (.int .i64 0) (.int .i64 32)).run Try.prog w =
    .ok (.slice (some ⟨w.heap.size, 0, none⟩) 0 32) (w.alloc (.cells (madeCells #[.int .u8 0] 32) 5)) := by
  obtain ⟨i0, hi, hz0, hz1, hz2⟩ := info_parts infoByteA
  have := run_make (P := Try.prog) w 22 5 i0 (.int .u8 0) Try.underlying22 hi hz0 .i64 .i64 0 32 (by omega) (by omega) (by rw [hz2]; omega) (by omega)
  simpa [hz1, Value.cells] using this

set_option maxRecDepth 100000 in
theorem zero128 : Try.zeroCells111 = z128.toArray := by kernel_rfl

set_option maxRecDepth 100000 in
set_option maxHeartbeats 4000000 in
theorem finish_any (s : St) (hs : InS s) (l : List UInt8) (Ab : Option Addr) (n cb count : Nat) (w : World) (hb : Bytes w Ab n cb l) (hn : n < 64) (hc : count ≤ 9223372036854775807) :
    Calls Try.prog 90 #[.agg (stA s), .slice Ab n cb, .int .i64 count] w fun e w' => ∃ A' c', e = .returned (.slice A' 32 c') ∧ w'.ownsRow w.heap.size 5 1 (.slice A' 32 c') 32 ((finL s l count).map byteV) ∧ Below w.heap.size w w' := by
  obtain ⟨i0, hi, hz0, hz1, hz2⟩ := info_parts infoByteA
  have cb1 := hb.le
  have cb2 := hb.cap
  have HL := Lib.hid hb.len
  have HB := Lib.hid hb
  clear hb
  have hcv : IntKind.u64.wrap (count : Int) = (count : Int) := IntWalk.u64_in _ (by omega)
  obtain ⟨S, hS, hS8⟩ : ∃ S : Nat, Hid ((if n + 9 ≤ 64 then 64 else 128) = S) ∧ (S = 64 ∧ n + 9 ≤ 64 ∨ S = 128 ∧ 64 < n + 9) := ⟨_, rfl, by split <;> omega⟩
  rw [show Value.agg (stA s) = .agg #[.int .u32 s.a, .int .u32 s.b, .int .u32 s.c, .int .u32 s.d, .int .u32 s.e, .int .u32 s.f, .int .u32 s.g, .int .u32 s.h] from rfl]
  go_enter Try.func90, Try.ntmps90
  have hcut : Blk ((w.alloc (.cells #[.int .u32 s.a, .int .u32 s.b, .int .u32 s.c, .int .u32 s.d, .int .u32 s.e, .int .u32 s.f, .int .u32 s.g, .int .u32 s.h] 101)).alloc (.cells z128.toArray 111)) (w.heap.size + 1) 111 z128.toArray := by
    have := Blk.new (w.alloc (.cells #[.int .u32 s.a, .int .u32 s.b, .int .u32 s.c, .int .u32 s.d, .int .u32 s.e, .int .u32 s.f, .int .u32 s.g, .int .u32 s.h] 101)) 111 z128.toArray
    simpa using this
  have HE := Lib.hid hcut
  clear hcut
  go_upto_region 2 with fail
  rw [zero128]
  go_wp2_with ((with_reducible show wpList _ _ _ _ _ _); refine wpList_copy_splice rfl _ _ _ _ rfl 5 Try.underlying22 (by kernel_rfl) _ _ 128 128 n cb rfl rfl (w.heap.size + 1) 0 z128 111 HE.out (l.map byteV) (HB.out.cpl 128 (by omega)) ((HB.out.stays (by go_grown)).src _) (by rw [List.length_map, HB.out.len, z128_len]; omega) (oneCell_bytes _) (w.heap.size + 1) _ (Below.refl _ _) (Nat.le_refl _) ?_)
  intro w2 h2 hb2
  have H2 : Hid (Blk w2 (w.heap.size + 1) 111 (rowA l)) := by
    rw [rowA_copy] at h2
    exact h2
  rw [HL.out]
  clear h2 HE
  have R2 := Lib.hid hb2
  have hs2 := H2.out.lt
  obtain ⟨v0, hv0⟩ := rowA_at l n (by omega) (by rw [HL.out]; omega)
  have hs0 := H2.out.cell n
  rw [hv0] at hs0
  have hs1 := H2.out.frozen n
  have hni : (n : Int) < 128 := by omega
  have hc8 : Hid (Blk (w2.setCell ⟨w.heap.size + 1, n, none⟩ (.int .u8 128)) (w.heap.size + 1) 111 (rowA (l ++ [128]))) := by
    have := H2.out.put n (.int .u8 128)
    rw [show Value.int .u8 128 = .int .u8 (128 : UInt8).toNat from rfl, rowA_set l n HL.out (by omega)] at this
    exact this
  have HX : Hid (Blk (w2.setCell ⟨w.heap.size + 1, n, none⟩ (.int .u8 128)) w.heap.size 101 (stA s)) := by
    have h1 : Blk ((w.alloc (.cells #[.int .u32 s.a, .int .u32 s.b, .int .u32 s.c, .int .u32 s.d, .int .u32 s.e, .int .u32 s.f, .int .u32 s.g, .int .u32 s.h] 101)).alloc (.cells z128.toArray 111)) w.heap.size 101 (stA s) := (Blk.new w _ _).stays ((Below.refl _ _).alloc (Nat.le_refl _) _)
    exact (h1.same (hb2.block w.heap.size (by omega))).far (by simp) _
  have RA : Below w.heap.size w (w2.setCell ⟨w.heap.size + 1, n, none⟩ (.int .u8 128)) := by
    have h1 : Below w.heap.size w w2 := (show Below w.heap.size w ((w.alloc _).alloc _) by go_grown).trans (hb2.mono (by omega))
    go_grown
  clear hb2
  have hmk := make_32
  have HMK := Lib.hid hmk
  clear hmk
  have hp8 := put_reads (cnt8 count) 8 (by omega)
  have HP8 := Lib.hid hp8
  clear hp8
  rcases hS8 with ⟨rfl, h9⟩ | ⟨rfl, h9⟩
  case inl =>
    have h9i : ¬ (n : Int) + 9 > 64 := by omega
    go_upto_region 7 with fail
    clear hs0 hs1 h9i R2 H2
    generalize w2.setCell ⟨w.heap.size + 1, n, none⟩ (.int .u8 128) = wA at *
    have hsp := pad_split l n count 56 HL.out (by unfold padN; rw [if_pos h9]; omega) (by omega)
    have HSP := Lib.hid hsp
    clear hsp
    go_cut [9] (fun b wx => b = .int .i64 64 ∧ Hid (Blk wx (w.heap.size + 1) 111 (rowL (l ++ padL n count)).toArray) ∧ Hid (Blk wx w.heap.size 101 (stA s)) ∧ Below w.heap.size w wx)
    case first =>
      have w56 : IntKind.i64.wrap 56 = 56 := by decide
      go_region_law (first
        | (refine step_copy_splice rfl _ _ _ _ rfl 5 Try.underlying22 (by kernel_rfl) _ _ 72 72 8 c3 rfl rfl (w.heap.size + 1) 56 (rowL (l ++ [128])) 111 HY3.out ((putL (cnt8 count) 8).map byteV) (HV3.out.cpl 72 (by omega)) (HV3.out.src _) (by rw [List.length_map, putL_length, rowL_len _ (by simp [HL.out]; omega)]; omega) (oneCell_bytes _) (w.heap.size + 1) w3 (Below.refl _ _) (Nat.le_refl _) ?_; intro w4 hg4 hb4)
        | (go_simp; go_at_call 84; rw [cnt_wrap count]; refine (HP8.out _).mono ?_; rintro e w3 ⟨A3, c3, rfl, hv3, hb3⟩; have HV3 := Lib.hid hv3; have HY3 := Lib.hid (hc8.out.stays (below_via (by go_grown) hb3 (by simp))); have HX3 := Lib.hid (HX.out.stays (below_via (by go_grown) hb3 (by simp))); have RA3 : Below w.heap.size w w3 := RA.trans (below_via (by go_grown) (hb3.mono (by simp [RA.size])) (by simp [RA.size]))))
      all_goals
        go_wp2_with fail
        go_meet
        refine ⟨rfl, ?_, ?_, RA3.trans (hb4.mono (by omega))⟩
        · have := hg4.out
          rw [HSP.out] at this
          exact this
        · exact HX3.out.same (hb4.block w.heap.size (by omega))
    case rest =>
      obtain ⟨rfl, HY, HX, RB⟩ := hcut
      obtain ⟨w8, rfl⟩ : ∃ x, x = wc := ⟨_, rfl⟩
      have hpl : (l ++ padL n count).length = 64 := by
        rw [List.length_append, HL.out, padL_length n count hn]; rw [if_pos h9]
      have HB8 := Lib.hid (row_bytes HY.out hpl (by omega))
      have hfin : Hid (finL s l count = outTo (blocksL s (l ++ padL n count) 1) 8) := by
        unfold Hid
        rw [finL, outTo_end, HL.out]
        rw [if_pos h9]
      generalize l ++ padL n count = L at *
      have hs8 := RB.size
      go_wp2_with fail
      refine (whole_any s L _ _ _ _ _ HX.out HB8.out (by intro _ x hx; cases hx; simp)).mono ?_
      rintro e w9 ⟨A9, c9, rfl, hv9, hk9, hg9⟩
      have RC : Below w.heap.size w w9 := RB.grown hg9 hs8 (by intro k hk; cases hk; exact Nat.le_refl _)
      have hs9 := RC.size
      have HK9 : Hid (Blk w9 w.heap.size 101 (stA (blocksL s L 1))) := hk9
      clear hv9 hk9 hg9 HB8 HX HY RB
      obtain ⟨T, hT, hTi⟩ : ∃ T, Hid (blocksL s L 1 = T) ∧ InS T := ⟨_, rfl, blocks_in hs L 1⟩
      rw [hT.out] at HK9 hfin
      have hTT := Lib.hid hTi
      clear hTi
      obtain ⟨a0, a1, a2, a3, a4, a5, a6, a7⟩ := blk8 HK9.out
      have hgl9 : w.heap.size < w9.heap.size := HK9.out.lt
      have hgn9 : ¬ w.heap.size = w9.heap.size := by omega
      have hmk := HMK.out w9
      go_wp2
      clear hmk a0 a1 a2 a3 a4 a5 a6 a7
      go_loopw [10, 34] (fun o i wz => ∃ (k cc : Nat) (AA : Option Addr), k ≤ 8 ∧ o = .slice AA (4 * k) cc ∧ i = .int .i64 k ∧ Hid (wz.ownsRow w9.heap.size 5 1 (.slice AA (4 * k) cc) (4 * k) ((outTo T k).map byteV)) ∧ Below w9.heap.size w9 wz) (fun _ i _ => 8 - (intOf i).toNat)
      case atStart => exact ⟨0, 32, _, by omega, rfl, rfl, own_made32 w9, by go_grown⟩
      case round =>
        obtain ⟨k, cc, AA2, hk, rfl, rfl, HO2, hbz2⟩ := hrel
        have hz2s := hbz2.size
        by_cases hk8 : k < 8
        · have hin := wAt_stL hTT.out k
          have hst := Lib.hid (outTo_step T k hk8)
          have hix := idx8 T k hk8
          generalize wAt (stL T) k = X at *
          obtain ⟨h0, h1⟩ := hin
          obtain ⟨x, rfl⟩ := Int.eq_ofNat_of_zero_le h0
          rw [Int.toNat_natCast] at hst
          have hk7 : k ≤ 7 := by omega
          have hki : (k : Int) < 8 := by omega
          clear hk8
          have H4C := Lib.hid (put4_cells x (by omega))
          go_wp2_with (at_builtin; refine wpList_append_rd rfl _ _ 22 rfl i0 (.int .u8 0) 1 Try.underlying22 hi hz0 hz1 hz2 rfl (by decide) rfl (own_alloc HO2.out _) rfl (rd_lit4 _ _ _ _ _ _) (by simp [Value.oneCell']) ?c1 ?c2 ?c3 ?_)
          case c1 => unfold maxLen; omega
          case c2 => omega
          case c3 => simp; omega
          intro A9' c9' w9' hown9 hg9 hb9
          have H9 := Lib.hid hown9
          have hB9 : Below w9.heap.size w9 w9' := (hbz2.alloc hz2s _).trans hb9
          clear hown9 hg9 hb9
          go_wp2
          go_roundw
          case rel =>
            refine ⟨k + 1, c9', A9', by omega, rfl, by go_num, ?_, hB9⟩
            unfold Hid
            rw [hst.out, List.map_append, H4C.out]
            exact H9.out
          case measure => simp [intOf]; omega
        · obtain rfl : k = 8 := by omega
          go_wp2
          go_ret
          refine ⟨AA2, cc, rfl, ?_, RC.trans (hbz2.mono hs9)⟩
          rw [hfin.out]
          exact own_more HO2.out hs9
  case inr =>
    have h9i : (n : Int) + 9 > 64 := by omega
    go_upto_region 7 with fail
    clear hs0 hs1 h9i R2 H2
    generalize w2.setCell ⟨w.heap.size + 1, n, none⟩ (.int .u8 128) = wA at *
    have hsp := pad_split l n count 120 HL.out (by unfold padN; rw [if_neg (by omega)]; omega) (by omega)
    have HSP := Lib.hid hsp
    clear hsp
    go_cut [9] (fun b wx => b = .int .i64 128 ∧ Hid (Blk wx (w.heap.size + 1) 111 (rowL (l ++ padL n count)).toArray) ∧ Hid (Blk wx w.heap.size 101 (stA s)) ∧ Below w.heap.size w wx)
    case first =>
      have w56 : IntKind.i64.wrap 120 = 120 := by decide
      go_region_law (first
        | (refine step_copy_splice rfl _ _ _ _ rfl 5 Try.underlying22 (by kernel_rfl) _ _ 8 8 8 c3 rfl rfl (w.heap.size + 1) 120 (rowL (l ++ [128])) 111 HY3.out ((putL (cnt8 count) 8).map byteV) (HV3.out.cpl 8 (by omega)) (HV3.out.src _) (by rw [List.length_map, putL_length, rowL_len _ (by simp [HL.out]; omega)]; omega) (oneCell_bytes _) (w.heap.size + 1) w3 (Below.refl _ _) (Nat.le_refl _) ?_; intro w4 hg4 hb4)
        | (go_simp; go_at_call 84; rw [cnt_wrap count]; refine (HP8.out _).mono ?_; rintro e w3 ⟨A3, c3, rfl, hv3, hb3⟩; have HV3 := Lib.hid hv3; have HY3 := Lib.hid (hc8.out.stays (below_via (by go_grown) hb3 (by simp))); have HX3 := Lib.hid (HX.out.stays (below_via (by go_grown) hb3 (by simp))); have RA3 : Below w.heap.size w w3 := RA.trans (below_via (by go_grown) (hb3.mono (by simp [RA.size])) (by simp [RA.size]))))
      all_goals
        go_wp2_with fail
        go_meet
        refine ⟨rfl, ?_, ?_, RA3.trans (hb4.mono (by omega))⟩
        · have := hg4.out
          rw [HSP.out] at this
          exact this
        · exact HX3.out.same (hb4.block w.heap.size (by omega))
    case rest =>
      obtain ⟨rfl, HY, HX, RB⟩ := hcut
      obtain ⟨w8, rfl⟩ : ∃ x, x = wc := ⟨_, rfl⟩
      have hpl : (l ++ padL n count).length = 128 := by
        rw [List.length_append, HL.out, padL_length n count hn]; rw [if_neg (by omega)]
      have HB8 := Lib.hid (row_bytes HY.out hpl (by omega))
      have hfin : Hid (finL s l count = outTo (blocksL s (l ++ padL n count) 2) 8) := by
        unfold Hid
        rw [finL, outTo_end, HL.out]
        rw [if_neg (by omega)]
      generalize l ++ padL n count = L at *
      have hs8 := RB.size
      go_wp2_with fail
      refine (whole_any s L _ _ _ _ _ HX.out HB8.out (by intro _ x hx; cases hx; simp)).mono ?_
      rintro e w9 ⟨A9, c9, rfl, hv9, hk9, hg9⟩
      have RC : Below w.heap.size w w9 := RB.grown hg9 hs8 (by intro k hk; cases hk; exact Nat.le_refl _)
      have hs9 := RC.size
      have HK9 : Hid (Blk w9 w.heap.size 101 (stA (blocksL s L 2))) := hk9
      clear hv9 hk9 hg9 HB8 HX HY RB
      obtain ⟨T, hT, hTi⟩ : ∃ T, Hid (blocksL s L 2 = T) ∧ InS T := ⟨_, rfl, blocks_in hs L 2⟩
      rw [hT.out] at HK9 hfin
      have hTT := Lib.hid hTi
      clear hTi
      obtain ⟨a0, a1, a2, a3, a4, a5, a6, a7⟩ := blk8 HK9.out
      have hgl9 : w.heap.size < w9.heap.size := HK9.out.lt
      have hgn9 : ¬ w.heap.size = w9.heap.size := by omega
      have hmk := HMK.out w9
      go_wp2
      clear hmk a0 a1 a2 a3 a4 a5 a6 a7
      go_loopw [10, 34] (fun o i wz => ∃ (k cc : Nat) (AA : Option Addr), k ≤ 8 ∧ o = .slice AA (4 * k) cc ∧ i = .int .i64 k ∧ Hid (wz.ownsRow w9.heap.size 5 1 (.slice AA (4 * k) cc) (4 * k) ((outTo T k).map byteV)) ∧ Below w9.heap.size w9 wz) (fun _ i _ => 8 - (intOf i).toNat)
      case atStart => exact ⟨0, 32, _, by omega, rfl, rfl, own_made32 w9, by go_grown⟩
      case round =>
        obtain ⟨k, cc, AA2, hk, rfl, rfl, HO2, hbz2⟩ := hrel
        have hz2s := hbz2.size
        by_cases hk8 : k < 8
        · have hin := wAt_stL hTT.out k
          have hst := Lib.hid (outTo_step T k hk8)
          have hix := idx8 T k hk8
          generalize wAt (stL T) k = X at *
          obtain ⟨h0, h1⟩ := hin
          obtain ⟨x, rfl⟩ := Int.eq_ofNat_of_zero_le h0
          rw [Int.toNat_natCast] at hst
          have hk7 : k ≤ 7 := by omega
          have hki : (k : Int) < 8 := by omega
          clear hk8
          have H4C := Lib.hid (put4_cells x (by omega))
          go_wp2_with (at_builtin; refine wpList_append_rd rfl _ _ 22 rfl i0 (.int .u8 0) 1 Try.underlying22 hi hz0 hz1 hz2 rfl (by decide) rfl (own_alloc HO2.out _) rfl (rd_lit4 _ _ _ _ _ _) (by simp [Value.oneCell']) ?c1 ?c2 ?c3 ?_)
          case c1 => unfold maxLen; omega
          case c2 => omega
          case c3 => simp; omega
          intro A9' c9' w9' hown9 hg9 hb9
          have H9 := Lib.hid hown9
          have hB9 : Below w9.heap.size w9 w9' := (hbz2.alloc hz2s _).trans hb9
          clear hown9 hg9 hb9
          go_wp2
          go_roundw
          case rel =>
            refine ⟨k + 1, c9', A9', by omega, rfl, by go_num, ?_, hB9⟩
            unfold Hid
            rw [hst.out, List.map_append, H4C.out]
            exact H9.out
          case measure => simp [intOf]; omega
        · obtain rfl : k = 8 := by omega
          go_wp2
          go_ret
          refine ⟨AA2, cc, rfl, ?_, RC.trans (hbz2.mono hs9)⟩
          rw [hfin.out]
          exact own_more HO2.out hs9
end Go.Proofs.Ytahphlcahaheiaa
