import Derived.Deep.RegionLaw
import Derived.Deep.DeepCutAuto
import Derived.Test.YtiemnacoebkalaaGreatTaV15
set_option linter.all false
set_option maxRecDepth 100000
set_option maxHeartbeats 4000000
namespace Go.Proofs.YtiemnacoebkalaaGreat
open Go.RowKit
theorem Bytes.cpl {w : World} {A : Option Addr} {n c : Nat} {l : List UInt8} (h : Bytes w A n c l) (m : Nat) (hm : n <= m) : (l.map byteV).length = Nat.min n m := by
 rw [List.length_map, h.len]; exact (Nat.min_eq_left hm).symm
theorem Bytes.src {w : World} {A : Option Addr} {n c : Nat} {l : List UInt8} (h : Bytes w A n c l) (a : Option Addr) : 0 < (l.map byteV).length -> a = a ∧ ∃ ad, A = some ad ∧ ∀ j v, (l.map byteV)[j]? = some v -> w.cell? (ad.add j) = some v := by
 intro hp; rw [List.length_map, h.len] at hp; obtain ⟨b, off, e, _⟩ := h.at_ (i := 0) hp; refine ⟨rfl, _, e, fun j v hj => ?_⟩; obtain ⟨b', off', e', hc'⟩ := h.2.2.2 j v hj; rw [e] at e'; simp only [Option.some.injEq, Addr.mk.injEq, and_true] at e'; obtain ⟨rfl, rfl⟩ := e'; rw [add_off]; exact hc'
def rowL (l : List UInt8) : List Value := (l ++ List.replicate (128 - l.length) 0).map byteV
def rowA (l : List UInt8) : Array Value := (rowL l).toArray
theorem rowL_len (l : List UInt8) (h : l.length <= 128) : (rowL l).length = 128 := by simp [rowL]; omega
theorem rowL_copy (m P : List UInt8) (k : Nat) (h1 : m.length <= k) (h2 : k + P.length <= 128) : splice (rowL m) k (P.map byteV) = rowL (m ++ (List.replicate (k - m.length) 0 ++ P)) := by
 have ha : (m ++ List.replicate (128 - m.length) 0).take k = m ++ List.replicate (k - m.length) (0 : UInt8) := by
  rw [List.take_append, List.take_of_length_le h1, List.take_replicate, Nat.min_eq_left (by omega)]
 have hb : (m ++ List.replicate (128 - m.length) 0).drop (k + P.length) = List.replicate (128 - (m ++ (List.replicate (k - m.length) 0 ++ P)).length) (0 : UInt8) := by
  rw [List.drop_append, List.drop_of_length_le (by omega), List.nil_append, List.drop_replicate]
  congr 1
  simp; omega
 unfold splice rowL; rw [<- List.map_take, List.length_map, <- List.map_drop, ha, hb, <- List.map_append, <- List.map_append]
 congr 1
 simp only [List.append_assoc]
theorem pad_split (l : List UInt8) (n c k : Nat) (hl : l.length = n) (hk : k = n + 1 + padN n) (h : k <= 120) : splice (rowL (l ++ [128])) k ((putL (cnt8 c) 8).map byteV) = rowL (l ++ padL n c) := by
 rw [rowL_copy _ _ _ (by simp; omega) (by rw [putL_length]; omega), padL_cnt, List.append_assoc]
 congr 3
 simp only [List.singleton_append, List.length_append, List.length_cons, List.length_nil, hl]; rw [show k - (n + (0 + 1)) = padN n by omega]
def z128 : List Value := List.replicate 128 (.int .u8 0)
theorem rowA_copy (l : List UInt8) : (splice z128 0 (l.map byteV)).toArray = rowA l := by
 have key : ∀ m : Nat, splice (List.replicate m (Value.int .u8 0)) 0 (l.map byteV) = (l ++ List.replicate (m - l.length) 0).map byteV := by
  intro m; simp [splice, byteV, List.drop_replicate]
 rw [z128, key, rowA, rowL]
theorem z128_len : z128.length = 128 := List.length_replicate
theorem rowA_at (l : List UInt8) (i : Nat) (h : i < 128) (hl : l.length <= 128) : ∃ v, (rowA l)[i]? = some v := by
 refine ⟨_, Array.getElem?_eq_getElem ?_⟩; simp [rowA, rowL]; omega
theorem rowA_set (l : List UInt8) (n : Nat) (hn : l.length = n) (h : n < 128) (x : UInt8) : (rowA l).setIfInBounds n (.int .u8 x.toNat) = rowA (l ++ [x]) := by
 subst hn; simp only [rowA, rowL, List.setIfInBounds_toArray]
 congr 1
 rw [show 128 - l.length = (128 - (l ++ [x]).length) + 1 by simp; omega, List.replicate_succ, List.map_append, List.set_append_right _ _ (by simp)]; simp [byteV]

theorem row_bytes {w : World} {g : Nat} {t : TypeId} {L : List UInt8} {m : Nat} (h : Blk w g t (rowL L).toArray) (hl : L.length = m) (hm : m <= 128) : Bytes w (some ⟨g, 0, none⟩) m 128 L := by
 refine ⟨by simpa using hl, hm, by decide, fun i u hu => ⟨g, 0, rfl, ?_⟩⟩; rw [Nat.zero_add, h.cell i, List.getElem?_toArray]; have hi : i < (L.map byteV).length := by
  rcases Nat.lt_or_ge i (L.map byteV).length with hlt | hge
  · exact hlt
  · rw [List.getElem?_eq_none hge] at hu; cases hu
 unfold rowL; rw [List.map_append, List.getElem?_append_left hi]; exact hu
theorem idx8 (T : St) (k : Nat) (h : k < 8) : ∀ W : World, (Instr.index 220 (.agg #[.int .u32 T.a, .int .u32 T.b, .int .u32 T.c, .int .u32 T.d, .int .u32 T.e, .int .u32 T.f, .int .u32 T.g, .int .u32 T.h]) (.int .i64 k)).run Tryz.prog W = .ok (.int .u32 (wAt (stL T) k)) W := by
 match k, h with
 | 0, _ | 1, _ | 2, _ | 3, _ | 4, _ | 5, _ | 6, _ | 7, _ => exact fun _ => by kernel_rfl
theorem put4_cells (x : Nat) (hx : x < 4294967296) : (putL x 4).map byteV = [.int .u8 ((x : Int) / 16777216), .int .u8 ((x : Int) / 65536 % 256), .int .u8 ((x : Int) / 256 % 256), .int .u8 ((x : Int) % 256)] := by
 simp [putL, byteV]; omega
theorem rd_lit4 (w : World) (e : TypeId) (a b c d : Value) : Rd (w.alloc (.cells #[a, b, c, d] e)) 1 (some ⟨w.heap.size, 0, none⟩) 4 4 [a, b, c, d] := by
 refine ⟨rfl, Nat.le_refl _, by decide, fun i u hu => ⟨w.heap.size, 0, rfl, ?_⟩⟩; rw [Nat.zero_add, cell_of_row _ _ _ _ _ (0, 0) (heap_alloc_new _ _), <- hu]; simp
theorem size_made32 : (madeCells #[Value.int .u8 0] 32).size = 32 * 1 := by
 have := congrArg List.length (toList_madeCells_one (.int .u8 0) 32)
 simpa using this
theorem own_made32 (w : World) : (w.alloc (.cells (madeCells #[.int .u8 0] 32) 5)).ownsRow w.heap.size 5 1 (.slice (some ⟨w.heap.size, 0, none⟩) 0 32) 0 [] :=
 ⟨rfl, .inr ⟨w.heap.size, 32, _, rfl, Nat.le_refl _, heap_alloc_new _ _, by omega, by decide, by rw [size_made32], rfl⟩⟩
theorem make_32 (w : World) : (Instr.makeSlice 27 (.int .i64 0) (.int .i64 32)).run Tryz.prog w =
    .ok (.slice (some ⟨w.heap.size, 0, none⟩) 0 32) (w.alloc (.cells (madeCells #[.int .u8 0] 32) 5)) := by
 obtain ⟨i0, hi, hz0, hz1, hz2⟩ := info_parts infoByteA; have := run_make (P := Tryz.prog) w 27 5 i0 (.int .u8 0) Tryz.underlying27 hi hz0 .i64 .i64 0 32 (by omega) (by omega) (by rw [hz2]; omega) (by omega)
 simpa [hz1, Value.cells] using this

theorem zero128 : Tryz.zeroCells238 = z128.toArray := by kernel_rfl

theorem finish_any (s : St) (hs : InS s) (l : List UInt8) (Ab : Option Addr) (n cb count : Nat) (w : World) (hb : Bytes w Ab n cb l) (hn : n < 64) (hc : count <= 9223372036854775807) :
    Calls Tryz.prog 150 #[.agg (stA s), .slice Ab n cb, .int .i64 count] w fun e w' => ∃ A' c', e = .returned (.slice A' 32 c') ∧ w'.ownsRow w.heap.size 5 1 (.slice A' 32 c') 32 ((finL s l count).map byteV) ∧ Below w.heap.size w w' := by
 obtain ⟨i0, hi, hz0, hz1, hz2⟩ := info_parts infoByteA; have cb1 := hb.le; have cb2 := hb.cap; have HL := qq hb.len; have HB := qq hb; clear hb; have hcv : IntKind.u64.wrap (count : Int) = (count : Int) := IntWalk.u64_in _ (by omega); obtain ⟨S, hS, hS8⟩ : ∃ S : Nat, Hid ((if n + 9 <= 64 then 64 else 128) = S) ∧ (S = 64 ∧ n + 9 <= 64 ∨ S = 128 ∧ 64 < n + 9) := ⟨_, rfl, by split <;> omega⟩; rw [show Value.agg (stA s) = .agg #[.int .u32 s.a, .int .u32 s.b, .int .u32 s.c, .int .u32 s.d, .int .u32 s.e, .int .u32 s.f, .int .u32 s.g, .int .u32 s.h] from rfl]
 go_enter Tryz.func150, Tryz.ntmps150
 have hcut : Blk ((w.alloc (.cells #[.int .u32 s.a, .int .u32 s.b, .int .u32 s.c, .int .u32 s.d, .int .u32 s.e, .int .u32 s.f, .int .u32 s.g, .int .u32 s.h] 220)).alloc (.cells z128.toArray 238)) (w.heap.size + 1) 238 z128.toArray := by
  have := Blk.new (w.alloc (.cells #[.int .u32 s.a, .int .u32 s.b, .int .u32 s.c, .int .u32 s.d, .int .u32 s.e, .int .u32 s.f, .int .u32 s.g, .int .u32 s.h] 220)) 238 z128.toArray
  simpa using this
 have HE := qq hcut; clear hcut
 go_upto_region 2 with fail
 rw [zero128]
 go_wp2_with ((with_reducible show wpList _ _ _ _ _ _); refine wpList_copy_splice rfl _ _ _ _ rfl 5 Tryz.underlying27 (by kernel_rfl) _ _ 128 128 n cb rfl rfl (w.heap.size + 1) 0 z128 238 HE.out (l.map byteV) (HB.out.cpl 128 (by omega)) ((HB.out.stays (by go_grown)).src _) (by rw [List.length_map, HB.out.len, z128_len]; omega) (oneCell_bytes _) (w.heap.size + 1) _ (Below.refl _ _) (Nat.le_refl _) ?_)
 intro w2 h2 hb2; have H2 : Hid (Blk w2 (w.heap.size + 1) 238 (rowA l)) := by
  rw [rowA_copy] at h2; exact h2
 rw [HL.out]; clear h2 HE; have R2 := qq hb2; have hs2 := H2.out.lt; obtain ⟨v0, hv0⟩ := rowA_at l n (by omega) (by rw [HL.out]; omega); have hs0 := H2.out.cell n; rw [hv0] at hs0; have hs1 := H2.out.frozen n; have hni : (n : Int) < 128 := by omega
 have hc8 : Hid (Blk (w2.setCell ⟨w.heap.size + 1, n, none⟩ (.int .u8 128)) (w.heap.size + 1) 238 (rowA (l ++ [128]))) := by
  have := H2.out.put n (.int .u8 128); rw [show Value.int .u8 128 = .int .u8 (128 : UInt8).toNat from rfl, rowA_set l n HL.out (by omega)] at this; exact this
 have HX : Hid (Blk (w2.setCell ⟨w.heap.size + 1, n, none⟩ (.int .u8 128)) w.heap.size 220 (stA s)) := by
  have h1 : Blk ((w.alloc (.cells #[.int .u32 s.a, .int .u32 s.b, .int .u32 s.c, .int .u32 s.d, .int .u32 s.e, .int .u32 s.f, .int .u32 s.g, .int .u32 s.h] 220)).alloc (.cells z128.toArray 238)) w.heap.size 220 (stA s) := (Blk.new w _ _).stays ((Below.refl _ _).alloc (Nat.le_refl _) _); exact (h1.same (hb2.block w.heap.size (by omega))).far (by simp) _
 have RA : Below w.heap.size w (w2.setCell ⟨w.heap.size + 1, n, none⟩ (.int .u8 128)) := by
  have h1 : Below w.heap.size w w2 := (show Below w.heap.size w ((w.alloc _).alloc _) by go_grown).trans (hb2.mono (by omega))
  go_grown
 clear hb2; have hmk := make_32; have HMK := qq hmk; clear hmk; have hp8 := put_reads (cnt8 count) 8 (by omega); have HP8 := qq hp8; clear hp8; rcases hS8 with ⟨rfl, h9⟩ | ⟨rfl, h9⟩
 case inl =>
  have h9i : ¬ (n : Int) + 9 > 64 := by omega
  go_upto_region 7 with fail
  clear hs0 hs1 h9i R2 H2
  generalize w2.setCell ⟨w.heap.size + 1, n, none⟩ (.int .u8 128) = wA at *
  have hsp := pad_split l n count 56 HL.out (by unfold padN; rw [if_pos h9]; omega) (by omega); have HSP := qq hsp; clear hsp
  go_cut [9] (fun b wx => b = .int .i64 64 ∧ Hid (Blk wx (w.heap.size + 1) 238 (rowL (l ++ padL n count)).toArray) ∧ Hid (Blk wx w.heap.size 220 (stA s)) ∧ Below w.heap.size w wx)
  case first =>
   have w56 : IntKind.i64.wrap 56 = 56 := by decide
   go_region_law (first
    | (refine step_copy_splice rfl _ _ _ _ rfl 5 Tryz.underlying27 (by kernel_rfl) _ _ 72 72 8 c3 rfl rfl (w.heap.size + 1) 56 (rowL (l ++ [128])) 238 HY3.out ((putL (cnt8 count) 8).map byteV) (HV3.out.cpl 72 (by omega)) (HV3.out.src _) (by rw [List.length_map, putL_length, rowL_len _ (by simp [HL.out]; omega)]; omega) (oneCell_bytes _) (w.heap.size + 1) w3 (Below.refl _ _) (Nat.le_refl _) ?_; intro w4 hg4 hb4)
    | (go_simp; go_at_call 66; rw [cnt_wrap count]; refine (HP8.out _).mono ?_; rintro e w3 ⟨A3, c3, rfl, hv3, hb3⟩; have HV3 := qq hv3; have HY3 := qq (hc8.out.stays (below_via (by go_grown) hb3 (by simp))); have HX3 := qq (HX.out.stays (below_via (by go_grown) hb3 (by simp))); have RA3 : Below w.heap.size w w3 := RA.trans (below_via (by go_grown) (hb3.mono (by simp [RA.size])) (by simp [RA.size]))))
   all_goals
    go_wp2_with fail
    go_meet
    refine ⟨rfl, ?_, ?_, RA3.trans (hb4.mono (by omega))⟩
    · have := hg4.out; rw [HSP.out] at this; exact this
    · exact HX3.out.same (hb4.block w.heap.size (by omega))
  case rest =>
   obtain ⟨rfl, HY, HX, RB⟩ := hcut; obtain ⟨w8, rfl⟩ : ∃ x, x = wc := ⟨_, rfl⟩; have hpl : (l ++ padL n count).length = 64 := by
    rw [List.length_append, HL.out, padL_length n count hn]; rw [if_pos h9]
   have HB8 := qq (row_bytes HY.out hpl (by omega)); have hfin : Hid (finL s l count = outTo (blocksL s (l ++ padL n count) 1) 8) := by
    unfold Hid; rw [finL, outTo_end, HL.out]; rw [if_pos h9]
   generalize l ++ padL n count = L at *
   have hs8 := RB.size
   go_wp2_with fail
   refine (whole_any s L _ _ _ _ _ HX.out HB8.out (by intro _ x hx; cases hx; simp)).mono ?_; rintro e w9 ⟨A9, c9, rfl, hv9, hk9, hg9⟩; have RC : Below w.heap.size w w9 := RB.grown hg9 hs8 (by intro k hk; cases hk; exact Nat.le_refl _); have hs9 := RC.size; have HK9 : Hid (Blk w9 w.heap.size 220 (stA (blocksL s L 1))) := hk9; clear hv9 hk9 hg9 HB8 HX HY RB; obtain ⟨T, hT, hTi⟩ : ∃ T, Hid (blocksL s L 1 = T) ∧ InS T := ⟨_, rfl, blocks_in hs L 1⟩; rw [hT.out] at HK9 hfin; have hTT := qq hTi; clear hTi; obtain ⟨a0, a1, a2, a3, a4, a5, a6, a7⟩ := blk8 HK9.out; have hgl9 : w.heap.size < w9.heap.size := HK9.out.lt; have hgn9 : ¬ w.heap.size = w9.heap.size := by omega
   have hmk := HMK.out w9; go_wp2; clear hmk a0 a1 a2 a3 a4 a5 a6 a7
   go_loopw [10, 34] (fun o i wz => ∃ (k cc : Nat) (AA : Option Addr), k <= 8 ∧ o = .slice AA (4 * k) cc ∧ i = .int .i64 k ∧ Hid (wz.ownsRow w9.heap.size 5 1 (.slice AA (4 * k) cc) (4 * k) ((outTo T k).map byteV)) ∧ Below w9.heap.size w9 wz) (fun _ i _ => 8 - (intOf i).toNat)
   case atStart => exact ⟨0, 32, _, by omega, rfl, rfl, own_made32 w9, by go_grown⟩
   case round =>
    obtain ⟨k, cc, AA2, hk, rfl, rfl, HO2, hbz2⟩ := hrel; have hz2s := hbz2.size
    by_cases hk8 : k < 8
    · have hin := wAt_stL hTT.out k; have hst := qq (outTo_step T k hk8); have hix := idx8 T k hk8
      generalize wAt (stL T) k = X at *
      obtain ⟨h0, h1⟩ := hin; obtain ⟨x, rfl⟩ := Int.eq_ofNat_of_zero_le h0; rw [Int.toNat_natCast] at hst; have hk7 : k <= 7 := by omega
      have hki : (k : Int) < 8 := by omega
      clear hk8; have H4C := qq (put4_cells x (by omega))
      go_wp2_with (at_builtin; refine wpList_append_rd rfl _ _ 27 rfl i0 (.int .u8 0) 1 Tryz.underlying27 hi hz0 hz1 hz2 rfl (by decide) rfl (own_alloc HO2.out _) rfl (rd_lit4 _ _ _ _ _ _) (by simp [Value.oneCell']) ?c1 ?c2 ?c3 ?_)
      case c1 => unfold maxLen; omega
      case c2 => omega
      case c3 => simp; omega
      intro A9' c9' w9' hown9 hg9 hb9; have H9 := qq hown9; have hB9 : Below w9.heap.size w9 w9' := (hbz2.alloc hz2s _).trans hb9; clear hown9 hg9 hb9; go_wp2
      go_roundw
      case rel =>
       refine ⟨k + 1, c9', A9', by omega, rfl, by go_num, ?_, hB9⟩; unfold Hid; rw [hst.out, List.map_append, H4C.out]; exact H9.out
      case measure => simp [intOf]; omega
    · obtain rfl : k = 8 := by omega
      go_wp2; go_ret; refine ⟨AA2, cc, rfl, ?_, RC.trans (hbz2.mono hs9)⟩; rw [hfin.out]; exact own_more HO2.out hs9
 case inr =>
  have h9i : (n : Int) + 9 > 64 := by omega
  go_upto_region 7 with fail
  clear hs0 hs1 h9i R2 H2
  generalize w2.setCell ⟨w.heap.size + 1, n, none⟩ (.int .u8 128) = wA at *
  have hsp := pad_split l n count 120 HL.out (by unfold padN; rw [if_neg (by omega)]; omega) (by omega); have HSP := qq hsp; clear hsp
  go_cut [9] (fun b wx => b = .int .i64 128 ∧ Hid (Blk wx (w.heap.size + 1) 238 (rowL (l ++ padL n count)).toArray) ∧ Hid (Blk wx w.heap.size 220 (stA s)) ∧ Below w.heap.size w wx)
  case first =>
   have w56 : IntKind.i64.wrap 120 = 120 := by decide
   go_region_law (first
    | (refine step_copy_splice rfl _ _ _ _ rfl 5 Tryz.underlying27 (by kernel_rfl) _ _ 8 8 8 c3 rfl rfl (w.heap.size + 1) 120 (rowL (l ++ [128])) 238 HY3.out ((putL (cnt8 count) 8).map byteV) (HV3.out.cpl 8 (by omega)) (HV3.out.src _) (by rw [List.length_map, putL_length, rowL_len _ (by simp [HL.out]; omega)]; omega) (oneCell_bytes _) (w.heap.size + 1) w3 (Below.refl _ _) (Nat.le_refl _) ?_; intro w4 hg4 hb4)
    | (go_simp; go_at_call 66; rw [cnt_wrap count]; refine (HP8.out _).mono ?_; rintro e w3 ⟨A3, c3, rfl, hv3, hb3⟩; have HV3 := qq hv3; have HY3 := qq (hc8.out.stays (below_via (by go_grown) hb3 (by simp))); have HX3 := qq (HX.out.stays (below_via (by go_grown) hb3 (by simp))); have RA3 : Below w.heap.size w w3 := RA.trans (below_via (by go_grown) (hb3.mono (by simp [RA.size])) (by simp [RA.size]))))
   all_goals
    go_wp2_with fail
    go_meet
    refine ⟨rfl, ?_, ?_, RA3.trans (hb4.mono (by omega))⟩
    · have := hg4.out; rw [HSP.out] at this; exact this
    · exact HX3.out.same (hb4.block w.heap.size (by omega))
  case rest =>
   obtain ⟨rfl, HY, HX, RB⟩ := hcut; obtain ⟨w8, rfl⟩ : ∃ x, x = wc := ⟨_, rfl⟩; have hpl : (l ++ padL n count).length = 128 := by
    rw [List.length_append, HL.out, padL_length n count hn]; rw [if_neg (by omega)]
   have HB8 := qq (row_bytes HY.out hpl (by omega)); have hfin : Hid (finL s l count = outTo (blocksL s (l ++ padL n count) 2) 8) := by
    unfold Hid; rw [finL, outTo_end, HL.out]; rw [if_neg (by omega)]
   generalize l ++ padL n count = L at *
   have hs8 := RB.size
   go_wp2_with fail
   refine (whole_any s L _ _ _ _ _ HX.out HB8.out (by intro _ x hx; cases hx; simp)).mono ?_; rintro e w9 ⟨A9, c9, rfl, hv9, hk9, hg9⟩; have RC : Below w.heap.size w w9 := RB.grown hg9 hs8 (by intro k hk; cases hk; exact Nat.le_refl _); have hs9 := RC.size; have HK9 : Hid (Blk w9 w.heap.size 220 (stA (blocksL s L 2))) := hk9; clear hv9 hk9 hg9 HB8 HX HY RB; obtain ⟨T, hT, hTi⟩ : ∃ T, Hid (blocksL s L 2 = T) ∧ InS T := ⟨_, rfl, blocks_in hs L 2⟩; rw [hT.out] at HK9 hfin; have hTT := qq hTi; clear hTi; obtain ⟨a0, a1, a2, a3, a4, a5, a6, a7⟩ := blk8 HK9.out; have hgl9 : w.heap.size < w9.heap.size := HK9.out.lt; have hgn9 : ¬ w.heap.size = w9.heap.size := by omega
   have hmk := HMK.out w9; go_wp2; clear hmk a0 a1 a2 a3 a4 a5 a6 a7
   go_loopw [10, 34] (fun o i wz => ∃ (k cc : Nat) (AA : Option Addr), k <= 8 ∧ o = .slice AA (4 * k) cc ∧ i = .int .i64 k ∧ Hid (wz.ownsRow w9.heap.size 5 1 (.slice AA (4 * k) cc) (4 * k) ((outTo T k).map byteV)) ∧ Below w9.heap.size w9 wz) (fun _ i _ => 8 - (intOf i).toNat)
   case atStart => exact ⟨0, 32, _, by omega, rfl, rfl, own_made32 w9, by go_grown⟩
   case round =>
    obtain ⟨k, cc, AA2, hk, rfl, rfl, HO2, hbz2⟩ := hrel; have hz2s := hbz2.size
    by_cases hk8 : k < 8
    · have hin := wAt_stL hTT.out k; have hst := qq (outTo_step T k hk8); have hix := idx8 T k hk8
      generalize wAt (stL T) k = X at *
      obtain ⟨h0, h1⟩ := hin; obtain ⟨x, rfl⟩ := Int.eq_ofNat_of_zero_le h0; rw [Int.toNat_natCast] at hst; have hk7 : k <= 7 := by omega
      have hki : (k : Int) < 8 := by omega
      clear hk8; have H4C := qq (put4_cells x (by omega))
      go_wp2_with (at_builtin; refine wpList_append_rd rfl _ _ 27 rfl i0 (.int .u8 0) 1 Tryz.underlying27 hi hz0 hz1 hz2 rfl (by decide) rfl (own_alloc HO2.out _) rfl (rd_lit4 _ _ _ _ _ _) (by simp [Value.oneCell']) ?c1 ?c2 ?c3 ?_)
      case c1 => unfold maxLen; omega
      case c2 => omega
      case c3 => simp; omega
      intro A9' c9' w9' hown9 hg9 hb9; have H9 := qq hown9; have hB9 : Below w9.heap.size w9 w9' := (hbz2.alloc hz2s _).trans hb9; clear hown9 hg9 hb9; go_wp2
      go_roundw
      case rel =>
       refine ⟨k + 1, c9', A9', by omega, rfl, by go_num, ?_, hB9⟩; unfold Hid; rw [hst.out, List.map_append, H4C.out]; exact H9.out
      case measure => simp [intOf]; omega
    · obtain rfl : k = 8 := by omega
      go_wp2; go_ret; refine ⟨AA2, cc, rfl, ?_, RC.trans (hbz2.mono hs9)⟩; rw [hfin.out]; exact own_more HO2.out hs9
theorem first_lit : stA firstS = #[.int .u32 1779033703, .int .u32 3144134277, .int .u32 1013904242, .int .u32 2773480762, .int .u32 1359893119, .int .u32 2600822924, .int .u32 528734635, .int .u32 1541459225] := rfl
theorem sum_any (l : List UInt8) (Ab : Option Addr) (n cb : Nat) (w : World) (hb : Bytes w Ab n cb l) :
    Calls Tryz.prog 134 #[.slice Ab n cb] w fun e w' => ∃ A' c', e = .returned (.slice A' 32 c') ∧ w'.ownsRow w.heap.size 5 1 (.slice A' 32 c') 32 ((sumL l).map byteV) ∧ Below w.heap.size w w' := by
 have cb1 := hb.le; have cb2 := hb.cap; have HL := qq hb.len; have HB := qq hb; clear hb
 go_enter Tryz.func134, Tryz.ntmps134
 go_wp2_with fail
 refine (first_any _).mono ?_; rintro e w1 ⟨rfl, hb1⟩; rw [first_lit]; have hs1 := hb1.size; have R1 := qq hb1; clear hb1; have HB1 := qq (HB.out.stays R1.out); have hne : n ≠ 0 -> ∀ x, Ab = some x -> x.block ≠ w1.heap.size := by
  intro h0 x hx; obtain ⟨b, off, e, hc⟩ := HB1.out.at_ (i := 0) (by omega); rw [hx] at e
  cases e
  have := World.block_lt_of_cell? w1 _ hc; simp at this ⊢; omega
 have HNE := qq hne; clear hne HB
 go_wp2_with fail
 have hB1 := Blk.new w1 220 (stA firstS); rw [first_lit] at hB1; refine (whole_any firstS l _ _ _ _ _ hB1 (HB1.out.stays (by go_grown)) HNE.out).mono ?_; rintro e w2 ⟨A2, c2, rfl, hv2, hk2, hg2⟩; have RB : Below w1.heap.size w1 (w1.alloc (.cells (stA firstS) 220)) := by go_grown
 have R2 : Below w1.heap.size w1 w2 := RB.grown hg2 (by simp) (by intro k hk; cases hk; exact Nat.le_refl _); have R3 := R1.out.trans (R2.mono hs1); have hs3 := R3.size; have HV := qq hv2; have hS : Hid (sumL l = finL (blocksL firstS l (n / 64)) (l.drop (64 * (n / 64))) n) := by unfold Hid; rw [sumL, wholeS, restL, HL.out]
 have hTi := blocks_in first_in l (n / 64)
 generalize blocksL firstS l (n / 64) = T at *
 have HTI := qq hTi; obtain ⟨a0, a1, a2, a3, a4, a5, a6, a7⟩ := blk8 hk2; clear hB1 hv2 hk2 hg2 RB R2 hTi
 go_wp2_with fail
 refine (finish_any T HTI.out _ _ _ _ n _ HV.out (by omega) (by omega)).mono ?_; rintro e w4 ⟨A4, c4, rfl, hv4, hb4⟩; have HO := qq (own_more (B' := w.heap.size) hv4 (by omega)); have R5 := R3.trans (hb4.mono hs3); clear hv4 hb4 a0 a1 a2 a3 a4 a5 a6 a7; go_wp2; go_ret; exact ⟨_, _, rfl, by rw [hS.out]; exact HO.out, R5⟩

def rowB (L : List UInt8) : Array Value := (L.map byteV).toArray
theorem rowB_at (L : List UInt8) (i : Nat) (h : i < L.length) : (rowB L)[i]? = some (.int .u8 (byteAt L i)) := by
 simp only [rowB, List.getElem?_toArray]; exact byteAt_map h
theorem rowB_set (L : List UInt8) (i : Nat) (x : UInt8) : (rowB L).setIfInBounds i (byteV x) = rowB (L.set i x) := by
 simp only [rowB, List.setIfInBounds_toArray, List.map_set]
def mixL (M P : List UInt8) (j : Nat) : List UInt8 := M.take j ++ P.drop j
theorem mixL_zero (M P : List UInt8) : mixL M P 0 = P := by simp [mixL]
theorem mixL_len (M P : List UInt8) (j : Nat) (h : M.length = P.length) : (mixL M P j).length = P.length := by simp [mixL]; omega
theorem mixL_end (M P : List UInt8) (j : Nat) (h : M.length = P.length) (hj : j = P.length) : mixL M P j = M := by
 subst hj; simp [mixL, <- h]
theorem mixL_set (M P Z : List UInt8) (j : Nat) (h : M.length = P.length) (hj : j < P.length) (x : UInt8) (hx : M[j]? = some x) : (mixL M P j ++ Z).set j x = mixL M P (j + 1) ++ Z := by
 have hjm : j < M.length := by omega
 have hx2 : M[j] = x := by simpa [hjm] using hx
 rw [List.set_append_left _ _ (by rw [mixL_len _ _ _ h]; exact hj)]
 congr 1
 unfold mixL; rw [List.set_append_right _ _ (by simp; omega), List.take_succ_eq_append_getElem hjm, hx2, List.append_assoc]
 congr 1
 rw [List.length_take, Nat.min_eq_left (by omega), Nat.sub_self, List.drop_eq_getElem_cons hj]
 rfl
theorem mixL_byte (M P Z : List UInt8) (j : Nat) (h : M.length = P.length) (hj : j < P.length) : byteAt (mixL M P j ++ Z) j = byteAt P j := by
 unfold byteAt
 congr 1
 rw [List.getD, List.getD, List.getElem?_append_left (by rw [mixL_len _ _ _ h]; exact hj)]; unfold mixL; rw [List.getElem?_append_right (by simp; omega), List.getElem?_drop, List.length_take, Nat.min_eq_left (by omega)]
 congr 2; omega
theorem padK_len (k : List UInt8) (h : k.length <= 64) : (padK k).length = 64 := by simp [padK]; omega
theorem maskL_len (k : List UInt8) (m : UInt8) (h : k.length <= 64) : (maskL k m).length = 64 := by simp [maskL, padK_len k h]
theorem mask_bits : ∀ a < 256, bits .xor .u8 ((a : Nat) : Int) 54 = ((UInt8.ofNat a ^^^ 54).toNat : Int) ∧ bits .xor .u8 ((a : Nat) : Int) 92 = ((UInt8.ofNat a ^^^ 92).toNat : Int) := by decide +kernel
theorem mask_val (k : List UInt8) (m : Nat) (hm : m = 54 ∨ m = 92) (j : Nat) (hj : j < (padK k).length) : ∃ x, (maskL k (UInt8.ofNat m))[j]? = some x ∧ Value.int .u8 (bits .xor .u8 (byteAt (padK k) j) (m : Int)) = byteV x := by
 refine ⟨_, by unfold maskL; rw [List.getElem?_map, List.getElem?_eq_getElem hj]; rfl, ?_⟩; have hb : byteAt (padK k) j = ((padK k)[j]).toNat := by simp [byteAt, hj, List.getD]
 have := mask_bits _ (byteAt_lt (padK k) j); rw [hb] at this ⊢; have hx : UInt8.ofNat ((padK k)[j]).toNat = (padK k)[j] := by simp
 rw [hx] at this; unfold byteV; rcases hm with rfl | rfl
 · exact congrArg _ this.1
 · exact congrArg _ this.2

theorem made_z128 : madeCells #[Value.int .u8 0] 128 = z128.toArray := by
 apply Array.toList_inj.mp; rw [toList_madeCells_one]
 rfl
theorem make_64 (w : World) : (Instr.makeSlice 27 (.int .i64 64) (.int .i64 128)).run Tryz.prog w =
    .ok (.slice (some ⟨w.heap.size, 0, none⟩) 64 128) (w.alloc (.cells z128.toArray 5)) := by
 obtain ⟨i0, hi, hz0, hz1, hz2⟩ := info_parts infoByteA; have := run_make (P := Tryz.prog) w 27 5 i0 (.int .u8 0) Tryz.underlying27 hi hz0 .i64 .i64 64 128 (by omega) (by omega) (by rw [hz2]; omega) (by omega); rw [<- made_z128]
 simpa [hz1, Value.cells] using this
theorem row_pad (k : List UInt8) (h : k.length <= 64) : (splice z128 0 (k.map byteV)).toArray = rowB (padK k ++ List.replicate 64 0) := by
 rw [rowA_copy, rowA, rowL, rowB, padK, List.append_assoc, List.replicate_append_replicate]
 congr 4; omega

theorem masked_any (m : Nat) (hm : m = 54 ∨ m = 92) (k : List UInt8) (A : Option Addr) (n c : Nat) (w : World) (hb : Bytes w A n c k) (hn : n <= 64) :
    Calls Tryz.prog 135 #[.slice A n c, .int .u8 m] w fun e w' => ∃ A' c', e = .returned (.slice A' 64 c') ∧ w'.ownsRow w.heap.size 5 1 (.slice A' 64 c') 64 ((maskL k (UInt8.ofNat m)).map byteV) ∧ Below w.heap.size w w' := by
 have n1 := hb.le; have n2 := hb.cap; have HL := qq hb.len; have HB := qq hb; have hmk := make_64 w; clear hb
 go_enter Tryz.func135, Tryz.ntmps135
 go_upto_region 2 with fail
 clear hmk; have hE := qq (Blk.new w 5 z128.toArray)
 go_wp2_with ((with_reducible show wpList _ _ _ _ _ _); refine wpList_copy_splice rfl _ _ _ _ rfl 5 Tryz.underlying27 (by kernel_rfl) _ _ 64 128 n c rfl rfl w.heap.size 0 z128 5 hE.out (k.map byteV) (HB.out.cpl 64 (by omega)) ((HB.out.stays (by go_grown)).src _) (by rw [List.length_map, HB.out.len, z128_len]; omega) (oneCell_bytes _) w.heap.size _ (Below.refl _ _) (Nat.le_refl _) ?_)
 intro w2 h2 hb2; rw [row_pad k (by rw [HL.out]; omega)] at h2; have H2 : Hid (Blk w2 w.heap.size 5 (rowB (mixL (maskL k (UInt8.ofNat m)) (padK k) 0 ++ List.replicate 64 0))) := by
  rw [mixL_zero]; exact h2
 have R2 : Below w.heap.size w w2 := (show Below w.heap.size w (w.alloc _) by go_grown).trans hb2; have hpk := padK_len k (by rw [HL.out]; omega); have hmk := maskL_len k (UInt8.ofNat m) (by rw [HL.out]; omega); have HPK := qq hpk; have HMK := qq hmk; clear h2 hb2 hpk hmk hE; rw [HL.out]; go_wp2
 go_loopw [13] (fun i wr => ∃ j : Nat, j <= 64 ∧ i = .int .i64 j ∧ Hid (Blk wr w.heap.size 5 (rowB (mixL (maskL k (UInt8.ofNat m)) (padK k) j ++ List.replicate 64 0))) ∧ Below w.heap.size w wr) (fun i _ => 64 - (intOf i).toNat)
 case atStart => exact ⟨0, by omega, rfl, H2, R2⟩
 case round =>
  clear H2 R2; obtain ⟨j, hj, rfl, HR, hbr⟩ := hrel; have hsr := hbr.size
  by_cases hj64 : j < 64
  · have hji : (j : Int) < 64 := by omega
    have c0 := HR.out.cell j; rw [rowB_at _ _ (by rw [List.length_append, mixL_len _ _ _ (by rw [HPK.out, HMK.out]), HPK.out]; omega), mixL_byte _ _ _ _ (by rw [HPK.out, HMK.out]) (by rw [HPK.out]; exact hj64)] at c0; have f0 := HR.out.frozen j; obtain ⟨x, hx1, hx2⟩ := mask_val k m hm j (by rw [HPK.out]; exact hj64); have HX := qq hx2; clear hx2; go_wp2
    go_roundw
    case rel =>
     refine ⟨j + 1, by omega, by go_num, ?_, by go_grown⟩; have := HR.out.put j (byteV x); rw [rowB_set, mixL_set _ _ _ _ (by rw [HPK.out, HMK.out]) (by rw [HPK.out]; exact hj64) x hx1] at this; rw [HX.out]; exact this
    case measure => simp [intOf]; omega
  · obtain rfl : j = 64 := by omega
    go_wp2; go_ret; refine ⟨_, _, rfl, ⟨by simp [HMK.out], .inr ⟨w.heap.size, 128, _, rfl, Nat.le_refl _, HR.out, by omega, by decide, ?_, ?_⟩⟩, hbr⟩
    · rw [mixL_end _ _ _ (by rw [HPK.out, HMK.out]) HPK.out.symm]; simp [rowB, HMK.out]
    · rw [mixL_end _ _ _ (by rw [HPK.out, HMK.out]) HPK.out.symm]; unfold rowB; rw [List.map_append, Nat.mul_one, List.toList_toArray, List.take_append_of_le_length (by rw [List.length_map, HMK.out]; omega), List.take_of_length_le (by rw [List.length_map, HMK.out]; omega)]
set_option maxHeartbeats 8000000 in
theorem mac_any (k b : List UInt8) (A : Option Addr) (n c : Nat) (A2 : Option Addr) (n2 c2 : Nat) (w : World) (hk : Bytes w A n c k) (hb : Bytes w A2 n2 c2 b) (hn2 : n2 <= 1000000) :
    Calls Tryz.prog 105 #[.slice A n c, .slice A2 n2 c2] w fun e w' => ∃ A' c', e = .returned (.slice A' 32 c') ∧ w'.ownsRow w.heap.size 5 1 (.slice A' 32 c') 32 ((macL k b).map byteV) ∧ Below w.heap.size w w' := by
 obtain ⟨i0, hi, hz0, hz1, hz2⟩ := info_parts infoByteA; have n1 := hk.le; have n3 := hk.cap; have n4 := hb.le; have n5 := hb.cap; have HL := qq hk.len; have KB := qq hk; have BB := qq hb; clear hk hb
 by_cases hn : 64 < n
 · have hni : (n : Int) > 64 := by omega
   have HM : Hid (macL k b = sumL (maskL (sumL k) (UInt8.ofNat 92) ++ sumL (maskL (sumL k) (UInt8.ofNat 54) ++ b))) := by
    unfold Hid macL shortK; rw [if_pos (by rw [HL.out]; exact hn)]
    rfl
   go_enter Tryz.func105, Tryz.ntmps105
   go_wp2_with fail
   refine (sum_any _ _ _ _ _ KB.out).mono ?_; rintro e w1 ⟨AK, cK, rfl, hv, hb⟩; have KB : Hid (Bytes w1 AK 32 cK (sumL k)) := own_rd hv; have BB := qs BB hb; have R := qq hb; have hsR := R.out.size; clear hv hb
   generalize sumL k = K at *
   go_wp2_with fail
   refine (masked_any 54 (by decide) _ _ _ _ _ KB.out (by omega)).mono ?_; rintro e wa ⟨Aa, ca, rfl, hv, hb⟩; have M1 := qq hv; have Ra := qq hb; have hsa := Ra.out.size; have BBa := qs BB hb; clear hv hb
   go_wp2_with (at_builtin; refine wpList_append_rd rfl _ _ 27 rfl i0 (.int .u8 0) 1 Tryz.underlying27 hi hz0 hz1 hz2 rfl (by decide) rfl M1.out rfl BBa.out (oneCell_bytes _) ?c1 ?c2 ?c3 ?_)
   case c1 => unfold maxLen; omega
   case c2 => omega
   case c3 => omega
   intro Ap cp wp hownp hgp hbp; have P1 := qq hownp; have Rp := qq (Ra.out.trans hbp); have hsp := Rp.out.size; have KB := qq (KB.out.stays Rp.out); have R := qq (R.out.trans (Rp.out.mono hsR)); have hsR := R.out.size; clear hownp hgp hbp M1 BBa Ra hsa Rp BB; have P2 : Hid (Bytes wp Ap (64 + n2) cp (maskL K (UInt8.ofNat 54) ++ b)) := by
    have := own_rd P1.out; rw [<- List.map_append] at this; exact this
   clear P1
   go_wp2_with fail
   refine (sum_any _ _ _ _ _ P2.out).mono ?_; rintro e wq ⟨Aq, cq, rfl, hv, hb⟩; have I1 : Hid (Bytes wq Aq 32 cq (sumL (maskL K (UInt8.ofNat 54) ++ b))) := own_rd hv; have KB := qs KB hb; have R := qq (R.out.trans (hb.mono hsR)); have hsR := R.out.size; clear hv hb P2
   go_wp2_with fail
   refine (masked_any 92 (by decide) _ _ _ _ _ KB.out (by omega)).mono ?_; rintro e wr ⟨Ar, cr, rfl, hv, hb⟩; have M1 := qq hv; have Ra := qq hb; have hsa := Ra.out.size; have I2 := qs I1 hb; clear hv hb I1 KB
   go_wp2_with (at_builtin; refine wpList_append_rd rfl _ _ 27 rfl i0 (.int .u8 0) 1 Tryz.underlying27 hi hz0 hz1 hz2 rfl (by decide) rfl M1.out rfl I2.out (oneCell_bytes _) ?c1 ?c2 ?c3 ?_)
   case c1 => unfold maxLen; omega
   case c2 => omega
   case c3 => omega
   intro As cs ws howns hgs hbs; have P1 := qq howns; have R := qq (R.out.trans ((Ra.out.trans hbs).mono hsR)); have hsR := R.out.size; clear howns hgs hbs M1 I2 Ra hsa; have P2 : Hid (Bytes ws As (64 + 32) cs (maskL K (UInt8.ofNat 92) ++ sumL (maskL K (UInt8.ofNat 54) ++ b))) := by
    have := own_rd P1.out; rw [<- List.map_append] at this; exact this
   clear P1
   go_wp2_with fail
   refine (sum_any _ _ _ _ _ P2.out).mono ?_; rintro e wt ⟨At, ct, rfl, hv, hb⟩; have HO := qq (own_more (B' := w.heap.size) hv hsR); have R := qq (R.out.trans (hb.mono hsR)); clear hv hb P2; go_wp2; go_ret; exact ⟨_, _, rfl, by rw [HM.out]; exact HO.out, R.out⟩
 · have hni : ¬ (n : Int) > 64 := by omega
   have HM : Hid (macL k b = sumL (maskL k (UInt8.ofNat 92) ++ sumL (maskL k (UInt8.ofNat 54) ++ b))) := by
    unfold Hid macL shortK; rw [if_neg (by rw [HL.out]; exact hn)]
    rfl
   have R : Hid (Below w.heap.size w w) := Below.refl _ _; have hsR := R.out.size; obtain ⟨K, rfl⟩ : ∃ x, x = k := ⟨_, rfl⟩
   go_enter Tryz.func105, Tryz.ntmps105
   go_wp2_with fail
   refine (masked_any 54 (by decide) _ _ _ _ _ KB.out (by omega)).mono ?_; rintro e wa ⟨Aa, ca, rfl, hv, hb⟩; have M1 := qq hv; have Ra := qq hb; have hsa := Ra.out.size; have BBa := qs BB hb; clear hv hb
   go_wp2_with (at_builtin; refine wpList_append_rd rfl _ _ 27 rfl i0 (.int .u8 0) 1 Tryz.underlying27 hi hz0 hz1 hz2 rfl (by decide) rfl M1.out rfl BBa.out (oneCell_bytes _) ?c1 ?c2 ?c3 ?_)
   case c1 => unfold maxLen; omega
   case c2 => omega
   case c3 => omega
   intro Ap cp wp hownp hgp hbp; have P1 := qq hownp; have Rp := qq (Ra.out.trans hbp); have hsp := Rp.out.size; have KB := qq (KB.out.stays Rp.out); have R := qq (R.out.trans (Rp.out.mono hsR)); have hsR := R.out.size; clear hownp hgp hbp M1 BBa Ra hsa Rp BB; have P2 : Hid (Bytes wp Ap (64 + n2) cp (maskL K (UInt8.ofNat 54) ++ b)) := by
    have := own_rd P1.out; rw [<- List.map_append] at this; exact this
   clear P1
   go_wp2_with fail
   refine (sum_any _ _ _ _ _ P2.out).mono ?_; rintro e wq ⟨Aq, cq, rfl, hv, hb⟩; have I1 : Hid (Bytes wq Aq 32 cq (sumL (maskL K (UInt8.ofNat 54) ++ b))) := own_rd hv; have KB := qs KB hb; have R := qq (R.out.trans (hb.mono hsR)); have hsR := R.out.size; clear hv hb P2
   go_wp2_with fail
   refine (masked_any 92 (by decide) _ _ _ _ _ KB.out (by omega)).mono ?_; rintro e wr ⟨Ar, cr, rfl, hv, hb⟩; have M1 := qq hv; have Ra := qq hb; have hsa := Ra.out.size; have I2 := qs I1 hb; clear hv hb I1 KB
   go_wp2_with (at_builtin; refine wpList_append_rd rfl _ _ 27 rfl i0 (.int .u8 0) 1 Tryz.underlying27 hi hz0 hz1 hz2 rfl (by decide) rfl M1.out rfl I2.out (oneCell_bytes _) ?c1 ?c2 ?c3 ?_)
   case c1 => unfold maxLen; omega
   case c2 => omega
   case c3 => omega
   intro As cs ws howns hgs hbs; have P1 := qq howns; have R := qq (R.out.trans ((Ra.out.trans hbs).mono hsR)); have hsR := R.out.size; clear howns hgs hbs M1 I2 Ra hsa; have P2 : Hid (Bytes ws As (64 + 32) cs (maskL K (UInt8.ofNat 92) ++ sumL (maskL K (UInt8.ofNat 54) ++ b))) := by
    have := own_rd P1.out; rw [<- List.map_append] at this; exact this
   clear P1
   go_wp2_with fail
   refine (sum_any _ _ _ _ _ P2.out).mono ?_; rintro e wt ⟨At, ct, rfl, hv, hb⟩; have HO := qq (own_more (B' := w.heap.size) hv hsR); have R := qq (R.out.trans (hb.mono hsR)); clear hv hb P2; go_wp2; go_ret; exact ⟨_, _, rfl, by rw [HM.out]; exact HO.out, R.out⟩
theorem z64_len : (List.replicate 64 (0 : UInt8)).length = 64 := List.length_replicate
theorem z64_byte (j : Nat) : byteAt (List.replicate 64 (0 : UInt8)) j = 0 := by
 unfold byteAt; rw [List.getD, List.getElem?_replicate]
 split <;> rfl
theorem padK_lo (k : List UInt8) (j : Nat) (h : j < k.length) : byteAt (padK k) j = byteAt k j := by
 unfold byteAt padK; rw [List.getD, List.getElem?_append_left h]; rfl
theorem padK_hi (k : List UInt8) (j : Nat) (h : k.length <= j) : byteAt (padK k) j = 0 := by
 unfold byteAt padK; rw [List.getD, List.getElem?_append_right h, List.getElem?_replicate]
 split <;> rfl
theorem byteAt_set (L : List UInt8) (j : Nat) (x : UInt8) (h : j < L.length) : byteAt (L.set j x) j = x.toNat := by
 unfold byteAt; rw [List.getD, List.getElem?_set_self h]; rfl
theorem made_64 : madeCells #[Value.int .u8 0] 64 = rowB (List.replicate 64 0) := by
 apply Array.toList_inj.mp; rw [toList_madeCells_one]; simp [rowB, byteV]
theorem make_64b (w : World) : (Instr.makeSlice 27 (.int .i64 64) (.int .i64 64)).run Tryz.prog w =
    .ok (.slice (some ⟨w.heap.size, 0, none⟩) 64 64) (w.alloc (.cells (madeCells #[.int .u8 0] 64) 5)) := make_bytes 64 (by decide) w
theorem row64 {w : World} {g : Nat} {t : TypeId} {L : List UInt8} (h : Blk w g t (rowB L)) (hl : L.length = 64) : Bytes w (some ⟨g, 0, none⟩) 64 64 L := by
 refine ⟨by simpa using hl, Nat.le_refl _, by decide, fun i u hu => ⟨g, 0, rfl, ?_⟩⟩; rw [Nat.zero_add, h.cell i, rowB, List.getElem?_toArray]; exact hu

set_option maxHeartbeats 8000000 in
theorem refMixed_any (m : Nat) (hm : m = 54 ∨ m = 92) (k : List UInt8) (A : Option Addr) (n c : Nat) (w : World) (hb : Bytes w A n c k) :
    Calls Tryz.prog 140 #[.slice A n c, .int .u8 m] w fun e w' => ∃ A', e = .returned (.slice A' 64 64) ∧ Bytes w' A' 64 64 (maskL (shortK k) (UInt8.ofNat m)) ∧ Below w.heap.size w w' := by
 have n1 := hb.le; have n2 := hb.cap; have HL := qq hb.len; have HB := qq hb; clear hb
 by_cases hn : 64 < n
 · have hni : (n : Int) > 64 := by omega
   have HM : Hid (maskL (shortK k) (UInt8.ofNat m) = maskL (sumL k) (UInt8.ofNat m)) := by
    unfold Hid shortK; rw [if_pos (by rw [HL.out]; exact hn)]
   go_enter Tryz.func140, Tryz.ntmps140
   go_wp2_with fail
   refine (refSum_any _ _ _ _ _ HB.out).mono ?_; rintro e wk ⟨AK, cK, rfl, hv, hb⟩; have KB : Hid (Bytes wk AK 32 cK (sumL k)) := own_rd hv; have R := qq hb; have hsR := R.out.size; have q1 := KB.out.le; have q2 := KB.out.cap; clear hv hb
   generalize sumL k = K at *
   obtain ⟨nK, hnK⟩ : ∃ x, x = 32 := ⟨_, rfl⟩; rw [<- hnK] at KB q1 ⊢; have hnK64 : nK <= 64 := by omega
   clear hnK; have HPK := qq (padK_len K (by rw [KB.out.len]; exact hnK64)); have HMK := qq (maskL_len K (UInt8.ofNat m) (by rw [KB.out.len]; exact hnK64)); have hmk := make_64b wk; go_wp2; clear hmk; rw [made_64]
   go_loopw [6] (fun i wr => ∃ j : Nat, j <= 64 ∧ i = .int .i64 j ∧ Hid (Blk wr wk.heap.size 5 (rowB (mixL (maskL K (UInt8.ofNat m)) (List.replicate 64 0) j))) ∧ Below wk.heap.size wk wr) (fun i _ => 64 - (intOf i).toNat)
   case atStart => exact ⟨0, by omega, rfl, by rw [mixL_zero]; exact Blk.new _ _ _, by go_grown⟩
   case round =>
    obtain ⟨j, hj, rfl, HR, hbr⟩ := hrel; have hsr := hbr.size
    by_cases hj64 : j < 64
    · have hji : (j : Int) < 64 := by omega
      have c0 := HR.out.cell j; rw [<- List.append_nil (mixL _ _ _), rowB_at _ _ (by rw [List.append_nil, mixL_len _ _ _ (by rw [z64_len, HMK.out]), z64_len]; omega), mixL_byte _ _ _ _ (by rw [z64_len, HMK.out]) (by rw [z64_len]; exact hj64), z64_byte] at c0; have f0 := HR.out.frozen j; obtain ⟨x, hx1, hx2⟩ := mask_val K m hm j (by rw [HPK.out]; exact hj64); have HX := qq hx2; clear hx2
      by_cases hjn : j < nK
      · have hjni : (j : Int) < (nK : Int) := by omega
        obtain ⟨b, off, rfl, hc⟩ := (KB.out.stays hbr).at_ hjn; have hpb : byteAt (padK K) j = byteAt K j := padK_lo K j (by rw [KB.out.len]; exact hjn); rw [hpb] at HX; have hb1 : Blk (wr.setCell ⟨wk.heap.size, j, none⟩ (.int .u8 (byteAt K j))) wk.heap.size 5 (rowB ((mixL (maskL K (UInt8.ofNat m)) (List.replicate 64 0) j).set j (K.getD j 0))) := by
         have := HR.out.put j (byteV (K.getD j 0)); rw [rowB_set] at this; exact this
        have HB1 := qq hb1; clear hb1 hpb
        go_upto_region 9 with fail
        have hw : Below wk.heap.size wk (wr.setCell ⟨wk.heap.size, j, none⟩ (.int .u8 (byteAt K j))) := by go_grown
        generalize wr.setCell ⟨wk.heap.size, j, none⟩ (.int .u8 (byteAt K j)) = wx at *
        have c1 := HB1.out.cell j; rw [rowB_at _ _ (by rw [List.length_set, mixL_len _ _ _ (by rw [z64_len, HMK.out]), z64_len]; omega), byteAt_set _ _ _ (by rw [mixL_len _ _ _ (by rw [z64_len, HMK.out]), z64_len]; omega)] at c1; have c2 : wx.cell? ⟨wk.heap.size, j, none⟩ = some (.int .u8 (byteAt K j)) := c1; have f1 := HB1.out.frozen j; clear c1 c0 f0 hc; go_wp2
        go_roundw
        case rel =>
         refine ⟨j + 1, by omega, by go_num, ?_, by go_grown⟩; have := HB1.out.put j (byteV x); rw [rowB_set, List.set_set, <- List.append_nil (mixL _ _ _), mixL_set _ _ _ _ (by rw [z64_len, HMK.out]) (by rw [z64_len]; exact hj64) x hx1, List.append_nil] at this; rw [HX.out]; exact this
        case measure => simp [intOf]; omega
      · have hjni : ¬ (j : Int) < (nK : Int) := by omega
        have hpb : byteAt (padK K) j = 0 := padK_hi K j (by rw [KB.out.len]; omega); rw [hpb] at HX; clear hpb; go_wp2
        go_roundw
        case rel =>
         refine ⟨j + 1, by omega, by go_num, ?_, by go_grown⟩; have := HR.out.put j (byteV x); rw [rowB_set, <- List.append_nil (mixL _ _ _), mixL_set _ _ _ _ (by rw [z64_len, HMK.out]) (by rw [z64_len]; exact hj64) x hx1, List.append_nil] at this; have HX0 : Value.int .u8 (bits BinOp.xor IntKind.u8 0 (m : Int)) = byteV x := HX.out; rw [HX0]; exact this
        case measure => simp [intOf]; omega
    · obtain rfl : j = 64 := by omega
      go_wp2; go_ret; refine ⟨_, rfl, ?_, R.out.trans (hbr.mono hsR)⟩; have hr := HR.out; rw [mixL_end _ _ _ (by rw [z64_len, HMK.out]) (by rw [z64_len])] at hr; rw [HM.out]; exact row64 hr HMK.out
 · have hni : ¬ (n : Int) > 64 := by omega
   have HM : Hid (maskL (shortK k) (UInt8.ofNat m) = maskL k (UInt8.ofNat m)) := by
    unfold Hid shortK; rw [if_neg (by rw [HL.out]; exact hn)]
   have R : Hid (Below w.heap.size w w) := Below.refl _ _; have hsR := R.out.size; obtain ⟨K, rfl⟩ : ∃ x, x = k := ⟨_, rfl⟩; obtain ⟨wk, rfl⟩ : ∃ x, x = w := ⟨_, rfl⟩; obtain ⟨nK, rfl⟩ : ∃ x, x = n := ⟨_, rfl⟩; have KB := HB; have hnK64 : nK <= 64 := by omega
   have HPK := qq (padK_len K (by rw [KB.out.len]; exact hnK64)); have HMK := qq (maskL_len K (UInt8.ofNat m) (by rw [KB.out.len]; exact hnK64))
   go_enter Tryz.func140, Tryz.ntmps140
   have hmk := make_64b wk; go_wp2; clear hmk; rw [made_64]
   go_loopw [6] (fun i wr => ∃ j : Nat, j <= 64 ∧ i = .int .i64 j ∧ Hid (Blk wr wk.heap.size 5 (rowB (mixL (maskL K (UInt8.ofNat m)) (List.replicate 64 0) j))) ∧ Below wk.heap.size wk wr) (fun i _ => 64 - (intOf i).toNat)
   case atStart => exact ⟨0, by omega, rfl, by rw [mixL_zero]; exact Blk.new _ _ _, by go_grown⟩
   case round =>
    obtain ⟨j, hj, rfl, HR, hbr⟩ := hrel; have hsr := hbr.size
    by_cases hj64 : j < 64
    · have hji : (j : Int) < 64 := by omega
      have c0 := HR.out.cell j; rw [<- List.append_nil (mixL _ _ _), rowB_at _ _ (by rw [List.append_nil, mixL_len _ _ _ (by rw [z64_len, HMK.out]), z64_len]; omega), mixL_byte _ _ _ _ (by rw [z64_len, HMK.out]) (by rw [z64_len]; exact hj64), z64_byte] at c0; have f0 := HR.out.frozen j; obtain ⟨x, hx1, hx2⟩ := mask_val K m hm j (by rw [HPK.out]; exact hj64); have HX := qq hx2; clear hx2
      by_cases hjn : j < nK
      · have hjni : (j : Int) < (nK : Int) := by omega
        obtain ⟨b, off, rfl, hc⟩ := (KB.out.stays hbr).at_ hjn; have hpb : byteAt (padK K) j = byteAt K j := padK_lo K j (by rw [KB.out.len]; exact hjn); rw [hpb] at HX; have hb1 : Blk (wr.setCell ⟨wk.heap.size, j, none⟩ (.int .u8 (byteAt K j))) wk.heap.size 5 (rowB ((mixL (maskL K (UInt8.ofNat m)) (List.replicate 64 0) j).set j (K.getD j 0))) := by
         have := HR.out.put j (byteV (K.getD j 0)); rw [rowB_set] at this; exact this
        have HB1 := qq hb1; clear hb1 hpb
        go_upto_region 9 with fail
        have hw : Below wk.heap.size wk (wr.setCell ⟨wk.heap.size, j, none⟩ (.int .u8 (byteAt K j))) := by go_grown
        generalize wr.setCell ⟨wk.heap.size, j, none⟩ (.int .u8 (byteAt K j)) = wx at *
        have c1 := HB1.out.cell j; rw [rowB_at _ _ (by rw [List.length_set, mixL_len _ _ _ (by rw [z64_len, HMK.out]), z64_len]; omega), byteAt_set _ _ _ (by rw [mixL_len _ _ _ (by rw [z64_len, HMK.out]), z64_len]; omega)] at c1; have c2 : wx.cell? ⟨wk.heap.size, j, none⟩ = some (.int .u8 (byteAt K j)) := c1; have f1 := HB1.out.frozen j; clear c1 c0 f0 hc; go_wp2
        go_roundw
        case rel =>
         refine ⟨j + 1, by omega, by go_num, ?_, by go_grown⟩; have := HB1.out.put j (byteV x); rw [rowB_set, List.set_set, <- List.append_nil (mixL _ _ _), mixL_set _ _ _ _ (by rw [z64_len, HMK.out]) (by rw [z64_len]; exact hj64) x hx1, List.append_nil] at this; rw [HX.out]; exact this
        case measure => simp [intOf]; omega
      · have hjni : ¬ (j : Int) < (nK : Int) := by omega
        have hpb : byteAt (padK K) j = 0 := padK_hi K j (by rw [KB.out.len]; omega); rw [hpb] at HX; clear hpb; go_wp2
        go_roundw
        case rel =>
         refine ⟨j + 1, by omega, by go_num, ?_, by go_grown⟩; have := HR.out.put j (byteV x); rw [rowB_set, <- List.append_nil (mixL _ _ _), mixL_set _ _ _ _ (by rw [z64_len, HMK.out]) (by rw [z64_len]; exact hj64) x hx1, List.append_nil] at this; have HX0 : Value.int .u8 (bits BinOp.xor IntKind.u8 0 (m : Int)) = byteV x := HX.out; rw [HX0]; exact this
        case measure => simp [intOf]; omega
    · obtain rfl : j = 64 := by omega
      go_wp2; go_ret; refine ⟨_, rfl, ?_, R.out.trans (hbr.mono hsR)⟩; have hr := HR.out; rw [mixL_end _ _ _ (by rw [z64_len, HMK.out]) (by rw [z64_len])] at hr; rw [HM.out]; exact row64 hr HMK.out

theorem rd_join2 {w : World} {B : Nat} {A : Option Addr} {n c : Nat} {a b : List UInt8} (h : w.ownsRow B 5 1 (.slice A n c) n ([a, b].flatten.map byteV)) : Bytes w A n c (a ++ b) := by
 have := own_rd h
 simpa [Bytes] using this
set_option maxHeartbeats 8000000 in
theorem refMac_any (k b : List UInt8) (A : Option Addr) (n c : Nat) (A2 : Option Addr) (n2 c2 : Nat) (w : World) (hk : Bytes w A n c k) (hb : Bytes w A2 n2 c2 b) (hn2 : n2 <= 1000000) :
    Calls Tryz.prog 113 #[.slice A n c, .slice A2 n2 c2] w fun e w' => ∃ A' c', e = .returned (.slice A' 32 c') ∧ w'.ownsRow w.heap.size 5 1 (.slice A' 32 c') 32 ((macL k b).map byteV) ∧ Below w.heap.size w w' := by
 have KB := qq hk; have BB := qq hb; clear hk hb
 go_enter Tryz.func113, Tryz.ntmps113
 go_wp2_with fail
 refine (refMixed_any 92 (by decide) _ _ _ _ _ KB.out).mono ?_; rintro e w1 ⟨Aa, rfl, hv, hb⟩; have hbx : Below w.heap.size w w1 := below_via (by go_grown) hb (by simp); have KB := qs KB hbx; have BB := qs BB hbx; have M1 := qq hv; have R1 := qq hbx; have hs1 := R1.out.size; clear hb hbx hv
 go_wp2_with fail
 refine (refMixed_any 54 (by decide) _ _ _ _ _ KB.out).mono ?_; rintro e w2 ⟨Ab, rfl, hv, hb⟩; have hbx : Below w1.heap.size w1 w2 := below_via (by go_grown) hb (by simp); have KB := qs KB hbx; have BB := qs BB hbx; have M1 := qs M1 hbx; have M2 := qq hv; have R2 := qq (R1.out.trans (hbx.mono hs1)); have hs2 := R2.out.size; clear hb hbx hv; clear R1
 go_wp2_with fail
 refine (refJoin_any _ _ _ [maskL (shortK k) (UInt8.ofNat 54), b] _ (lists_made2 M2.out BB.out) (64 + n2) (by rw [List.flatten_cons, List.flatten_cons, List.flatten_nil, List.append_nil, List.length_append, M2.out.len, BB.out.len]) (by omega)).mono ?_; rintro e w3 ⟨Ac, cc, rfl, hv, hb⟩; have hbx : Below w2.heap.size w2 w3 := below_via (by go_grown) hb (by simp); have KB := qs KB hbx; have BB := qs BB hbx; have M1 := qs M1 hbx; have M2 := qs M2 hbx; have J1 := qq (rd_join2 hv); have R3 := qq (R2.out.trans (hbx.mono hs2)); have hs3 := R3.out.size; clear hb hbx; clear R2; clear hv; clear M2 BB KB
 go_wp2_with fail
 refine (refSum_any _ _ _ _ _ J1.out).mono ?_; rintro e w4 ⟨Ad, cd, rfl, hv, hb⟩; have hbx : Below w3.heap.size w3 w4 := below_via (by go_grown) hb (by simp); have M1 := qs M1 hbx; have J1 := qs J1 hbx; have I1 := qq (show Bytes _ _ _ _ _ from own_rd hv); have R4 := qq (R3.out.trans (hbx.mono hs3)); have hs4 := R4.out.size; clear hb hbx; clear R3; clear hv; clear J1
 go_wp2_with fail
 refine (refJoin_any _ _ _ [maskL (shortK k) (UInt8.ofNat 92), _] _ (lists_made2 M1.out I1.out) (64 + 32) (by rw [List.flatten_cons, List.flatten_cons, List.flatten_nil, List.append_nil, List.length_append, M1.out.len, I1.out.len]) (by omega)).mono ?_; rintro e w5 ⟨Ae, ce, rfl, hv, hb⟩; have hbx : Below w4.heap.size w4 w5 := below_via (by go_grown) hb (by simp); have M1 := qs M1 hbx; have I1 := qs I1 hbx; have J1 := qq (rd_join2 hv); have R5 := qq (R4.out.trans (hbx.mono hs4)); have hs5 := R5.out.size; clear hb hbx; clear R4; clear hv; clear M1 I1
 go_wp2_with fail
 refine (refSum_any _ _ _ _ _ J1.out).mono ?_; rintro e w6 ⟨Af, cf, rfl, hv, hb⟩; have hbx : Below w5.heap.size w5 w6 := below_via (by go_grown) hb (by simp); have O1 := qq hv; have R6 := qq (R5.out.trans (hbx.mono hs5)); have hs6 := R6.out.size; clear hb hbx hv; clear R5; go_wp2; go_ret; exact ⟨_, _, rfl, own_more O1.out hs5, R6.out⟩
section
variable {P : Program} {w : World} {B e size n c m c2 : Nat} {A A2 : Option Addr} {xs news : List Value}
theorem wpList_append_rd2 {ops : Array Oper} {rest : List Oper} {o : Oper} {a : Act} {Q : Exit -> Act -> World -> Prop} (hgd : o.guard = none) (s x : Operand) (t : TypeId)
    (ho : o.op = .call { callee := .builtin .append, args := #[s, x], argTypes := #[t, t] })
    (i : TypeInfo) (z : Value) (bytes : Nat) (ht : P.underlying t = some (.slice e)) (hi : P.info? e = some i) (hz : i.zero = some z)
    (hsize : i.size = size) (hby : i.bytes = bytes) (hzs : z.cells.size = size) (hsz : 0 < size)
    (hs : a.eval s = .slice A n c) (hown : w.ownsRow B e size (.slice A n c) n xs) (hx : a.eval x = .slice A2 m c2) (hr : Rd w size A2 m c2 news) (h1 : ∀ u ∈ news, u.oneCell' = true)
    (h63 : n + m <= maxLen) (hbytes : (n + m) * bytes <= 140737488355328) (hbase : B <= w.heap.size)
    (h : ∀ A' c' w', w'.ownsRow B e size (.slice A' (n + m) c') (n + m) (xs ++ news) -> w.grownBy w' (Value.slice A n c).ownBlock -> Below B w w' ->
     ((Value.slice A' (n + m) c').ownBlock = (Value.slice A n c).ownBlock ∨ (Value.slice A' (n + m) c').ownBlock = some w.heap.size) ->
     wpList P ops Q rest (a.put o.dst (.slice A' (n + m) c')) w') : wpList P ops Q (o :: rest) a w := by
 obtain ⟨A', c', w', hrun, h2, h3, h4⟩ := run_append_rd (P := P) t o.type i z bytes ht hi hz hsize hby hzs hsz hown hr h1 h63 hbytes hbase; exact Lib.wpList_append_run w hgd s x t t ho _ _ hs hx _ _ hrun (h A' c' w' h2 h3 ((Below.refl B w).grown h3 hbase (fun k hk => (hown.lt k hk).1)) h4)
end
def Apart (u v : Value) : Prop := ∀ k, u.ownBlock = some k -> v.ownBlock ≠ some k
theorem Apart.symm {u v : Value} (h : Apart u v) : Apart v u := fun k hk hu => h k hu hk
theorem Apart.kept {u v : Value} (h : Apart u v) : u.ownBlock = none ∨ u.ownBlock ≠ v.ownBlock := by
 cases hu : u.ownBlock with
 | none => exact .inl rfl
 | some k => exact .inr (fun e => h k hu e.symm)
theorem Apart.of_below {u v : Value} {B : Nat} (h1 : ∀ k, u.ownBlock = some k -> k < B) (h2 : ∀ k, v.ownBlock = some k -> B <= k) : Apart u v := fun k hu hv => by
 have := h1 k hu; have := h2 k hv; omega
theorem Apart.grew {u v v' : Value} {B : Nat} (h : Apart u v) (h1 : ∀ k, u.ownBlock = some k -> k < B) (h2 : v'.ownBlock = v.ownBlock ∨ v'.ownBlock = some B) : Apart u v' := fun k hu hv => by
 rcases h2 with h2 | h2
 · rw [h2] at hv; exact h k hu hv
 · rw [h2] at hv; have := h1 k hu; injection hv with hv; omega
theorem cnt_byte (j : Nat) (h : j < 256) : Value.int .u8 (j : Int) = byteV (UInt8.ofNat j) := by simp [byteV, Nat.mod_eq_of_lt h]

set_option maxHeartbeats 8000000 in
theorem expand_any (key info : List UInt8) (A : Option Addr) (nk c : Nat) (A2 : Option Addr) (ni c2 n : Nat) (w : World) (hk : Bytes w A nk c key) (hi2 : Bytes w A2 ni c2 info) (hni : ni <= 100000) (hn : n <= 8000) :
    Calls Tryz.prog 104 #[.slice A nk c, .slice A2 ni c2, .int .i64 n] w fun e w' => ∃ A', e = .returned (.tuple #[.slice A' n n, .int .i64 0]) ∧ Bytes w' A' n n (expandL key info n) ∧ Below w.heap.size w w' := by
 obtain ⟨i0, hi, hz0, hz1, hz2⟩ := info_parts infoByteA; have KB := qq hk; have IB := qq hi2; have q1 := hk.le; have q2 := hk.cap; have q3 := hi2.le; have q4 := hi2.cap; clear hk hi2
 go_enter Tryz.func104, Tryz.ntmps104
 go_wp2
 go_loopw [8, 9, 10] (fun o l i wr => ∃ (j mo co ml cl : Nat) (AO AL : Option Addr), 32 * j <= n + 31 ∧ o = .slice AO mo co ∧ l = .slice AL ml cl ∧ i = .int .i64 ((j : Int) + 1) ∧ Hid (mo = 32 * j) ∧ ml <= 32 ∧
     Hid (wr.ownsRow w.heap.size 5 1 (.slice AO mo co) mo ((outE key info j).map byteV)) ∧ Hid (wr.ownsRow w.heap.size 5 1 (.slice AL ml cl) ml ((lastE key info j).map byteV)) ∧
     Hid (Apart (.slice AO mo co) (.slice AL ml cl)) ∧ Below w.heap.size w wr) (fun _ _ i _ => n + 32 - 32 * (intOf i).toNat)
 case atStart => exact ⟨0, 0, 0, 0, 0, none, none, by omega, rfl, rfl, rfl, rfl, by omega, own_nil _ _ _ _, own_nil _ _ _ _, qq (fun k hk => by simp [Value.ownBlock] at hk), by go_grown⟩
 case round =>
  obtain ⟨j, mo, co, ml, cl, AO, AL, hj, rfl, rfl, rfl, hm, hml, HO, HL, HA, hbr⟩ := hrel; have hsr := hbr.size
  by_cases hmn : mo < n
  · have hmi : (mo : Int) < (n : Int) := by omega
    have hj5 : j <= 300 := by have := hm.out; omega
    have IBr := qs IB hbr
    go_wp2_with (at_builtin; refine wpList_append_rd2 rfl _ _ 27 rfl i0 (.int .u8 0) 1 Tryz.underlying27 hi hz0 hz1 hz2 rfl (by decide) rfl HL.out rfl IBr.out (oneCell_bytes _) ?c1 ?c2 ?c3 ?_)
    case c1 => unfold maxLen; omega
    case c2 => omega
    case c3 => first | omega | (simp; omega)
    intro Ap cp wp hownp hgp hbp hop; have OP := qq (HO.out.kept hgp HA.out.kept); have HP := qq hownp; have HA2 : Hid (Apart (.slice AO mo co) (.slice Ap (ml + ni) cp)) := HA.out.grew (fun k hk => (HO.out.lt k hk).2) hop; have Rp := hbr.trans hbp; have hsp := Rp.size; have hspr := hgp.size; have HOlt : Hid (∀ k, (Value.slice AO mo co).ownBlock = some k -> k < wr.heap.size) := fun k hk => (HO.out.lt k hk).2
    clear hownp hgp hbp hop HO HL HA IBr
    go_wp2_with (at_builtin; refine wpList_append_rd2 rfl _ _ 27 rfl i0 (.int .u8 0) 1 Tryz.underlying27 hi hz0 hz1 hz2 rfl (by decide) rfl (own_alloc HP.out _) rfl (rd_one _ _ _) (by simp [Value.oneCell']) ?c1 ?c2 ?c3 ?_)
    case c1 => unfold maxLen; omega
    case c2 => omega
    case c3 => first | omega | (simp; omega)
    intro Aq cq wq hownq hgq hbq hoq; have OQ : Hid (wq.ownsRow w.heap.size 5 1 (.slice AO mo co) mo ((outE key info j).map byteV)) := (own_alloc OP.out _).kept hgq HA2.out.kept; have Rq : Below w.heap.size w wq := (Rp.alloc hsp _).trans hbq; have hsq := Rq.size; have hsqr : wp.heap.size <= wq.heap.size := by have := hgq.size; simp at this; omega
    have hcb : [UInt8.ofNat (j + 1)].map byteV = [Value.int .u8 ((j : Int) + 1)] := by
     have h := cnt_byte (j + 1) (by omega); rw [Int.natCast_add] at h; rw [List.map_cons, List.map_nil, <- h]
     rfl
    obtain ⟨X, hX⟩ : ∃ X, X = lastE key info j ++ info ++ [UInt8.ofNat (j + 1)] := ⟨_, rfl⟩; have HX : Hid (lastE key info (j + 1) = macL key X) := by unfold Hid; rw [lastE, hX]
    have BQ : Hid (Bytes wq Aq (ml + ni + 1) cq X) := by
     have := own_rd hownq; unfold Hid Bytes; rw [hX, List.map_append, List.map_append, hcb, List.append_assoc]
     simpa only [List.append_assoc] using this
    clear hcb hX; clear hownq hgq hbq hoq OP HP HA2 Rp hsp; have KBq := qs KB Rq
    go_wp2_with fail
    refine (mac_any _ _ _ _ _ _ _ _ _ KBq.out BQ.out (by omega)).mono ?_; rintro e ws ⟨As, cs, rfl, hv, hb⟩; have OS := qq (own_below OQ.out hb); have HS := qq hv; have Rs := Rq.trans (hb.mono hsq); have hss := Rs.size; have hAs : Hid (Apart (.slice As 32 cs) (.slice AO mo co)) := (Apart.of_below (B := wq.heap.size) (fun k hk => Nat.lt_of_lt_of_le (HOlt.out k hk) (by omega)) (fun k hk => (HS.out.lt k hk).1)).symm; clear hv hb OQ KBq BQ
    go_wp2_with (at_builtin; refine wpList_append_rd2 rfl _ _ 27 rfl i0 (.int .u8 0) 1 Tryz.underlying27 hi hz0 hz1 hz2 rfl (by decide) rfl OS.out rfl (own_rd HS.out) (oneCell_bytes _) ?c1 ?c2 ?c3 ?_)
    case c1 => unfold maxLen; omega
    case c2 => omega
    case c3 => first | omega | (simp; omega)
    intro At ct wt hownt hgt hbt hot; have OT : Hid (wt.ownsRow w.heap.size 5 1 (.slice At (mo + 32) ct) (mo + 32) ((outE key info (j + 1)).map byteV)) := by
     unfold Hid; rw [outE, List.map_append, HX.out]; exact hownt
    have HT : Hid (wt.ownsRow w.heap.size 5 1 (.slice As 32 cs) 32 ((lastE key info (j + 1)).map byteV)) := by
     unfold Hid; rw [HX.out]; exact own_more (B' := w.heap.size) (HS.out.kept hgt hAs.out.kept) hsq
    have HAT : Hid (Apart (.slice At (mo + 32) ct) (.slice As 32 cs)) := (hAs.out.grew (fun k hk => (HS.out.lt k hk).2) hot).symm; have Rt := Rs.trans hbt; clear hownt hgt hbt hot OS HS hAs Rs; go_wp2
    go_roundw
    case rel => exact ⟨j + 1, mo + 32, ct, 32, cs, At, As, by have := hm.out; omega, rfl, rfl, by go_num, by have := hm.out; unfold Hid; omega, by omega, OT, HT, HAT, Rt⟩
    case measure => have := hm.out; simp [intOf]; omega
  · have hmi : ¬ (mo : Int) < (n : Int) := by omega
    have hr : Bytes wr AO mo co (outE key info j) := own_rd HO.out; have q5 := hr.le; have q6 := hr.cap; have hcut := (hr.cut0 n (by omega)).cap_; rw [expandL_of key info n j (by have := hm.out; omega)] at hcut; have HC := qq hcut; clear hcut hr; go_wp2
    go_returns
    exact ⟨_, rfl, HC.out, hbr⟩

end Go.Proofs.YtiemnacoebkalaaGreat
