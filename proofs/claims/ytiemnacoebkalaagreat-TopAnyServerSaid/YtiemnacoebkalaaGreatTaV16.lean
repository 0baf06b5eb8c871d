import Derived.Deep.DeepCutAuto
import Derived.Test.YtiemnacoebkalaaGreatTaV04
import Derived.Test.YtiemnacoebkalaaGreatTaV10
set_option linter.all false
set_option maxRecDepth 100000
set_option maxHeartbeats 4000000
namespace Go.Proofs.YtiemnacoebkalaaGreat
open Go.RowKit
def rowX (n : Nat) (L : List UInt8) : Array Value := ((L ++ List.replicate (n - L.length) 0).map byteV).toArray
theorem rowX_size (n : Nat) (L : List UInt8) (h : L.length <= n) : (rowX n L).size = n := by simp [rowX]; omega
theorem rowX_zero (n : Nat) : madeCells #[Value.int .u8 0] n = rowX n [] := by
 apply Array.toList_inj.mp; rw [toList_madeCells_one]; simp [rowX, byteV]
theorem rowX_cat (n k m : Nat) (L P : List UInt8) (hk : L.length = k) (hm : P.length = m) (h : k + m <= n) : ((rowX n L).toList.take k ++ P.map byteV ++ (rowX n L).toList.drop (k + m)).toArray = rowX n (L ++ P) := by
 unfold rowX
 congr 1
 rw [<- List.map_take, <- List.map_drop, <- List.map_append, <- List.map_append, List.take_left' hk, List.drop_append, List.drop_eq_nil_of_le (by omega), List.nil_append, List.drop_replicate, List.length_append, hk, hm]
 congr 3
 omega
theorem row_bytesN {w : World} {g T n m : Nat} {L : List UInt8} (h : Blk w g T (rowX n L)) (hl : L.length <= n) (hm : m <= n) (hn : n <= maxLen) : Bytes w (some ⟨g, 0, none⟩) m n ((L ++ List.replicate (n - L.length) 0).take m) := by
 refine ⟨by simp; omega, hm, hn, fun i u hu => ⟨g, 0, rfl, ?_⟩⟩; rw [Nat.zero_add, h.cell i]; rw [List.map_take, List.getElem?_take] at hu
 split at hu
 · rw [rowX, List.getElem?_toArray]; exact hu
 · cases hu
theorem run_append_nil {P : Program} {w : World} {t e n c c2 : Nat} {i : TypeInfo} {a : Addr} (ty : TypeId) (ht : P.underlying t = some (.slice e)) (hi : P.info? e = some i) (hn : n <= c) :
    (Builtin.append_ #[t, t] ty #[.slice (some a) n c, .slice none 0 c2]).run P w = .ok (.slice (some a) n c) w := by
 simp [Builtin.append_, run_underlying ht, sizeOf, typeInfo, hi, Builtin.lenOf, Builtin.firstCells, hn, storeCells]
theorem ret_int {k : IntKind} {a b : Int} (h : a = b) : Ending.returned (.int k a) = .returned (.int k b) := by rw [h]
theorem run_room {w : World} {g n k m c : Nat} {A : Option Addr} {L P : List UInt8} (hB : Blk w g 5 (rowX n L)) (hk : L.length = k) (hP : Bytes w A m c P) (hr : k + m <= n) (ty : TypeId) :
    ∃ w', (Builtin.append_ #[27, 27] ty #[.slice (some ⟨g, 0, none⟩) k n, .slice A m c]).run Tryz.prog w = .ok (.slice (some ⟨g, 0, none⟩) (k + m) n) w' ∧ Blk w' g 5 (rowX n (L ++ P)) ∧ w.grownBy w' (some g) := by
 obtain ⟨i0, hi, hz0, hz1, hz2⟩ := info_parts infoByteA; have hl := hP.len
 cases A with
 | none =>
  have hm0 : m = 0 := by
   rcases Nat.eq_zero_or_pos m with h | h
   · exact h
   · obtain ⟨b, off, e, _⟩ := hP.at_ h
     cases e
  subst hm0; have hp : P = [] := List.eq_nil_of_length_eq_zero hl; subst hp; refine ⟨w, ?_, by simpa using hB, World.grownBy.refl w _⟩
  show (Builtin.append_ _ _ _).run _ _ = .ok (.slice (some ⟨g, 0, none⟩) k n) w
  exact run_append_nil ty Tryz.underlying27 hi (by omega)
 | some ad =>
  have hs := rowX_size n L (by omega); have hrun := run_append_room (P := Tryz.prog) w 27 ty 5 i0 Tryz.underlying27 hi g k n (rowX n L) hB ad m c (P.map byteV) (by rw [hz1]; simpa using hl) (fun j u hu => by
   obtain ⟨b, off, e, hc⟩ := hP.2.2.2 j u hu; simp only [Option.some.injEq] at e; subst e; rw [add_off]; exact hc) (oneCell_bytes P) hr (by rw [hz1, hs, List.length_map]; omega)
  refine ⟨_, hrun, ?_, ?_⟩
  · have h1 := setRow_heap w g (rowX n L) (((rowX n L).toList.take (k * i0.size) ++ P.map byteV ++ (rowX n L).toList.drop (k * i0.size + (P.map byteV).length)).toArray) 5 (0, 0) hB; rw [hz1, Nat.mul_one, List.length_map, hl, rowX_cat n k m L P hk hl hr] at h1; rw [hz1, Nat.mul_one, List.length_map, hl, rowX_cat n k m L P hk hl hr]; exact h1
  · exact ⟨rfl, rfl, rfl, by simp, fun j _ hj => setRow_other w g j _ (fun e => hj (by rw [e]))⟩
theorem size_any (n : Nat) (hn : n <= 1000000) (w : World) : Calls Tryz.prog 147 #[.int .i64 n] w fun e w' => e = .returned (.int .i64 (exSz n : Nat)) ∧ w = w' := by
 have h : ((exSz n : Nat) : Int) = max 16 ((4 + (n : Int) + 3) / 4 * 4) := by unfold exSz; omega
 have H := qq h; clear h
 go_enter Tryz.func147, Tryz.ntmps147
 go_wp2
 all_goals
  go_ret; exact ⟨by rw [H.out]; exact ret_int (by omega), rfl⟩
theorem sizeE_any (t : Int) (A : Option Addr) (n c : Nat) (l : List UInt8) (w : World) (hl : l.length = n) (hn : n <= 100000) :
    Calls Tryz.prog 130 #[.agg #[.int .i64 t, .slice A n c]] w fun e w' => e = .returned (.tuple #[.int .i64 ((sizeX (t, l)).1 : Nat), .int .i64 (sizeX (t, l)).2]) ∧ Below w.heap.size w w' := by
 have hz := exSz_ge n
 by_cases h1 : t < 0
 · have H : Hid (sizeX (t, l) = (0, 4)) := by unfold Hid sizeX; rw [if_pos (.inl h1)]
   clear hl
   go_enter Tryz.func130, Tryz.ntmps130
   go_upto_region 1 with fail
   obtain ⟨x1, f_, ex1, ef_⟩ : ∃ x1 f_, x1 = w.alloc (.cells #[.int .i64 t, .slice A n c] 97) ∧ f_ = w.heap.size := ⟨_, _, rfl, rfl⟩; rw [<- ex1, <- ef_]; have hbx : Below w.heap.size w x1 := by rw [ex1]; exact below_alloc1 _ _
   have g_F : w.heap.size <= f_ := by rw [ef_]; exact Nat.le_refl _
   have BF := qq (show Blk x1 f_ 97 #[.int .i64 t, .slice A n c] by rw [ex1, ef_]; exact blk_new1_0 _ _ _ ); have R2 := qq hbx; have hz_x1 := R2.out.size; clear hbx ex1 ef_; have kF_0 : x1.cell? ⟨f_, 0, none⟩ = some (.int .i64 t) := BF.out.cell 0; have kF_1 : x1.cell? ⟨f_, 1, none⟩ = some (.slice A n c) := BF.out.cell 1; go_wp2
   all_goals
    go_ret2
    first | exact ⟨by rw [H.out]; rfl, R2.out⟩ | (exfalso; omega)
 by_cases h2 : 65535 < t
 · have H : Hid (sizeX (t, l) = (0, 4)) := by unfold Hid sizeX; rw [if_pos (.inr h2)]
   clear hl
   go_enter Tryz.func130, Tryz.ntmps130
   go_upto_region 1 with fail
   obtain ⟨x1, f_, ex1, ef_⟩ : ∃ x1 f_, x1 = w.alloc (.cells #[.int .i64 t, .slice A n c] 97) ∧ f_ = w.heap.size := ⟨_, _, rfl, rfl⟩; rw [<- ex1, <- ef_]; have hbx : Below w.heap.size w x1 := by rw [ex1]; exact below_alloc1 _ _
   have g_F : w.heap.size <= f_ := by rw [ef_]; exact Nat.le_refl _
   have BF := qq (show Blk x1 f_ 97 #[.int .i64 t, .slice A n c] by rw [ex1, ef_]; exact blk_new1_0 _ _ _ ); have R2 := qq hbx; have hz_x1 := R2.out.size; clear hbx ex1 ef_; have kF_0 : x1.cell? ⟨f_, 0, none⟩ = some (.int .i64 t) := BF.out.cell 0; have kF_1 : x1.cell? ⟨f_, 1, none⟩ = some (.slice A n c) := BF.out.cell 1; go_wp2
   all_goals
    go_ret2
    first | exact ⟨by rw [H.out]; rfl, R2.out⟩ | (exfalso; omega)
 by_cases h3 : 1232 < exSz n
 · have H : Hid (sizeX (t, l) = (0, 2)) := by unfold Hid sizeX; rw [if_neg (by simp only []; omega), hl, if_pos h3]
   obtain ⟨q, hq⟩ : ∃ q, exSz n = q := ⟨_, rfl⟩; have h5 : (1232 : Int) < (exSz n : Nat) := by omega
   clear hl
   go_enter Tryz.func130, Tryz.ntmps130
   go_upto_region 1 with fail
   obtain ⟨x1, f_, ex1, ef_⟩ : ∃ x1 f_, x1 = w.alloc (.cells #[.int .i64 t, .slice A n c] 97) ∧ f_ = w.heap.size := ⟨_, _, rfl, rfl⟩; rw [<- ex1, <- ef_]; have hbx : Below w.heap.size w x1 := by rw [ex1]; exact below_alloc1 _ _
   have g_F : w.heap.size <= f_ := by rw [ef_]; exact Nat.le_refl _
   have BF := qq (show Blk x1 f_ 97 #[.int .i64 t, .slice A n c] by rw [ex1, ef_]; exact blk_new1_0 _ _ _ ); have R2 := qq hbx; have hz_x1 := R2.out.size; clear hbx ex1 ef_; have kF_0 : x1.cell? ⟨f_, 0, none⟩ = some (.int .i64 t) := BF.out.cell 0; have kF_1 : x1.cell? ⟨f_, 1, none⟩ = some (.slice A n c) := BF.out.cell 1
   go_wp2_with fail
   refine (size_any n (by omega) _).mono ?_; rintro e q_ ⟨rfl, rfl⟩; go_wp2
   all_goals
    go_ret2
    first | exact ⟨by rw [H.out]; rfl, R2.out⟩ | (exfalso; omega)
 · have H : Hid (sizeX (t, l) = (exSz n, 0)) := by unfold Hid sizeX; rw [if_neg (by simp only []; omega), hl, if_neg h3]
   have h5 : ¬ (1232 : Int) < (exSz n : Nat) := by omega
   clear hl
   go_enter Tryz.func130, Tryz.ntmps130
   go_upto_region 1 with fail
   obtain ⟨x1, f_, ex1, ef_⟩ : ∃ x1 f_, x1 = w.alloc (.cells #[.int .i64 t, .slice A n c] 97) ∧ f_ = w.heap.size := ⟨_, _, rfl, rfl⟩; rw [<- ex1, <- ef_]; have hbx : Below w.heap.size w x1 := by rw [ex1]; exact below_alloc1 _ _
   have g_F : w.heap.size <= f_ := by rw [ef_]; exact Nat.le_refl _
   have BF := qq (show Blk x1 f_ 97 #[.int .i64 t, .slice A n c] by rw [ex1, ef_]; exact blk_new1_0 _ _ _ ); have R2 := qq hbx; have hz_x1 := R2.out.size; clear hbx ex1 ef_; have kF_0 : x1.cell? ⟨f_, 0, none⟩ = some (.int .i64 t) := BF.out.cell 0; have kF_1 : x1.cell? ⟨f_, 1, none⟩ = some (.slice A n c) := BF.out.cell 1
   go_wp2_with fail
   refine (size_any n (by omega) _).mono ?_; rintro e q_ ⟨rfl, rfl⟩
   go_wp2_with fail
   refine (size_any n (by omega) _).mono ?_; rintro e q_ ⟨rfl, rfl⟩; go_wp2
   all_goals
    go_ret2
    first | exact ⟨by rw [H.out]; rfl, R2.out⟩ | (exfalso; omega)
theorem fld_eq (fs : List (Int × List UInt8)) (k : Nat) (h : k < fs.length) : fs[k] = (fldT fs k, fldD fs k) := by simp [fldT, fldD, List.getD, h]
theorem take_fld (fs : List (Int × List UInt8)) (k : Nat) (h : k < fs.length) : fs.take (k + 1) = fs.take k ++ [(fldT fs k, fldD fs k)] := by
 rw [List.take_succ_eq_append_getElem h, fld_eq fs k h]
theorem encX_err {fs : List (Int × List UInt8)} {k : Nat} {er : Int} (h0 : errX (fs.take k) = 0) (h : k < fs.length) (he : (sizeX (fldT fs k, fldD fs k)).2 = er) (hn : ¬ er = 0) : encodeX fs = ([], er) := by
 have e : fs = fs.take k ++ ((fldT fs k, fldD fs k) :: fs.drop (k + 1)) := by
  rw [<- fld_eq fs k h, <- List.drop_eq_getElem_cons h, List.take_append_drop]
 have e2 : errX fs = er := by
  conv => lhs; rw [e]
  rw [errX_append _ _ h0, errX, if_neg (by rw [he]; exact hn), he]
 rw [encodeX, if_neg (by rw [e2]; exact hn), e2]
def EncIs (fs : List (Int × List UInt8)) (k : Nat) (lg : Bool) (mo : Nat) : Prop := errX (fs.take k) = 0 ∧ lg = decide (1232 < totX (fs.take k)) ∧ (lg = false -> mo = totX (fs.take k))
theorem EncIs.next {fs : List (Int × List UInt8)} {k mo sz : Nat} {lg : Bool} (h : EncIs fs k lg mo) (hk : k < fs.length) (he : (sizeX (fldT fs k, fldD fs k)).2 = 0) (hs : (sizeX (fldT fs k, fldD fs k)).1 = sz) :
    sz = exSz (fldD fs k).length ∧ 16 <= sz ∧ sz <= 1232 ∧ 0 <= fldT fs k ∧ fldT fs k <= 65535 ∧ (lg = true -> EncIs fs (k + 1) true mo) ∧ (lg = false -> (1232 < mo + sz -> EncIs fs (k + 1) true mo) ∧ (mo + sz <= 1232 -> EncIs fs (k + 1) false (mo + sz))) := by
 obtain ⟨h1, h2, h3⟩ := h; obtain ⟨a1, a2, a3, a4⟩ := sizeX_ok he; rw [hs] at a4; have b := exSz_ge (fldD fs k).length; have ht := take_fld fs k hk; have e1 : errX (fs.take (k + 1)) = 0 := by rw [ht, errX_append _ _ h1, errX, if_pos he]; rfl
 have e2 : totX (fs.take (k + 1)) = totX (fs.take k) + sz := by rw [ht, totX_append, totX, totX, a4]; rfl
 simp only [] at a3 a4; refine ⟨a4, by omega, by omega, a1, a2, fun hl => ⟨e1, ?_, fun h => by cases h⟩, fun hl => ⟨fun h => ⟨e1, ?_, fun h => by cases h⟩, fun h => ⟨e1, ?_, fun _ => ?_⟩⟩⟩
 · rw [hl] at h2; have := of_decide_eq_true h2.symm; rw [e2]; exact (decide_eq_true (by omega)).symm
 · have := h3 hl; rw [e2]; exact (decide_eq_true (by omega)).symm
 · have := h3 hl; rw [e2]; exact (decide_eq_false (by omega)).symm
 · have := h3 hl; rw [e2]; omega
theorem EncIs.done {fs : List (Int × List UInt8)} {k mo : Nat} {lg : Bool} (h : EncIs fs k lg mo) (hk : fs.length = k) : encodeX fs = if 24 < k then ([], 8) else if lg = true then ([], 2) else (fs.flatMap encX, 0) := by
 obtain ⟨h1, h2, h3⟩ := h; rw [List.take_of_length_le (by omega)] at h1 h2; rw [encodeX, if_pos h1, hk]
 by_cases h24 : 24 < k
 · rw [if_pos h24, if_pos h24]
 · rw [if_neg h24, if_neg h24, h2]
   by_cases ht : 1232 < totX fs
   · rw [if_pos ht, if_pos (decide_eq_true ht)]
   · rw [if_neg ht, if_neg (by rw [decide_eq_false ht]; decide)]
theorem room_ex {w : World} {g n k m c r : Nat} {A : Option Addr} {L P : List UInt8} (hB : Blk w g 5 (rowX n L)) (hk : L.length = k) (hP : Bytes w A m c P) (hr : k + m <= n) (he : k + m = r) (ty : TypeId) :
    ∃ v w', (Builtin.append_ #[27, 27] ty #[.slice (some ⟨g, 0, none⟩) k n, .slice A m c]).run Tryz.prog w = .ok v w' ∧ v = .slice (some ⟨g, 0, none⟩) r n ∧ Blk w' g 5 (rowX n (L ++ P)) ∧ w.grownBy w' (some g) := by
 subst he; obtain ⟨w', h1, h2, h3⟩ := run_room hB hk hP hr ty; exact ⟨_, w', h1, rfl, h2, h3⟩
theorem enc_parts (t : Nat) (d : List UInt8) (n sz : Nat) (hd : d.length = n) (hs : sz = exSz n) : ((putL t 2 ++ putL sz 2 ++ d) ++ List.replicate (sz - (putL t 2 ++ putL sz 2 ++ d).length) 0).take sz = encX ((t : Int), d) := by
 have hz := exSz_ge n; have e : (putL t 2 ++ putL sz 2 ++ d).length = 4 + n := by simp only [List.length_append, putL_length]; omega
 rw [List.take_of_length_le (by rw [List.length_append, List.length_replicate, e]; omega), e, encX]; simp only [Int.toNat_natCast]; rw [hd, <- hs]
theorem make_cap (n : Nat) (hn : n <= 1000000) (w : World) : (Instr.makeSlice 27 (.int .i64 0) (.int .i64 n)).run Tryz.prog w =
    .ok (.slice (some ⟨w.heap.size, 0, none⟩) 0 n) (w.alloc (.cells (madeCells #[.int .u8 0] n) 5)) := by
 obtain ⟨i0, hi, hz0, hz1, hz2⟩ := info_parts infoByteA; have := run_make (P := Tryz.prog) w 27 5 i0 (.int .u8 0) Tryz.underlying27 hi hz0 .i64 .i64 0 n (by omega) (by omega) (by rw [hz2]; omega) (by omega)
 simpa [hz1, Value.cells] using this
theorem encode_any (A : Option Addr) (n c : Nat) (fs : List (Int × List UInt8)) (w : World) (hv : FldL w A n c fs) (hd : ∀ k, (fldD fs k).length <= 100000) :
    Calls Tryz.prog 93 #[.slice A n c] w fun e w' => ∃ A' n' c', e = .returned (.tuple #[.slice A' n' c', .int .i64 (encodeX fs).2]) ∧ Bytes w' A' n' c' (encodeX fs).1 ∧ Below w.heap.size w w' := by
 obtain ⟨i0, hi, hz0, hz1, hz2⟩ := info_parts infoByteA; have hcap := hv.cap; have hle := hv.le; have HL := qq hv.len; have HV := qq hv; have HD := qq hd; obtain ⟨R, hR⟩ : ∃ R, encodeX fs = R := ⟨_, rfl⟩; rw [hR]; have HR := qq hR; clear hv hR hd
 go_enter Tryz.func93, Tryz.ntmps93
 go_wp2
 go_loopw [4, 5, 13] (fun s g i wr => ∃ (k mo co : Nat) (AO : Option Addr) (lg : Bool), k <= n ∧ i = .int .i64 k ∧ s = .slice AO mo co ∧ g = .bool lg ∧ Hid (EncIs fs k lg mo) ∧ Hid (lg = true ∨ wr.ownsRow w.heap.size 5 1 (.slice AO mo co) mo (((fs.take k).flatMap encX).map byteV)) ∧ Below w.heap.size w wr ∧ co <= 9223372036854775807) (fun _ _ i _ => n - (intOf i).toNat)
 case atStart => exact ⟨0, 0, 0, none, false, Nat.zero_le _, rfl, rfl, rfl, ⟨rfl, rfl, fun _ => rfl⟩, .inr (own_nil _ _ _ _), Below.refl _ _, by decide⟩
 case round =>
  obtain ⟨k, mo, co, AO, lg, hk, rfl, rfl, rfl, HE, HO, hbr, hco⟩ := hrel; have RW := qq hbr; have hz_wr := hbr.size
  by_cases hkn : k < n
  ·
   have hkl : Hid (k < fs.length) := by rw [Hid, HL.out]; exact hkn
   obtain ⟨bb, off, A', n', c', rfl, hc0, hc1, hy⟩ := (HV.out.stays hbr).at_ hkn; have hyl := hy.len; have hyd : n' <= 100000 := by rw [<- hyl]; exact HD.out k
   have HY := qq hy; have HYL := qq hyl; have yl := hy.le; have yc := hy.cap; clear hy hyl hbr; obtain ⟨sz, hsz⟩ : ∃ sz, (sizeX (fldT fs k, fldD fs k)).1 = sz := ⟨_, rfl⟩; obtain ⟨er, her⟩ : ∃ er, (sizeX (fldT fs k, fldD fs k)).2 = er := ⟨_, rfl⟩; have HSZ := qq hsz; have HER := qq her; clear hsz her; obtain ⟨t, ht⟩ : ∃ t, fldT fs k = t := ⟨_, rfl⟩; obtain ⟨d, hd⟩ : ∃ d, fldD fs k = d := ⟨_, rfl⟩; rw [ht] at hc0 HSZ HER; rw [hd] at HY HYL HSZ HER; have HT := qq ht; have HDD := qq hd; clear ht hd; have RR := qq (Below.refl wr.heap.size wr); have HY0 := qq HY.out; have RW0 := qq RW.out
   go_upto_region 6 with fail
   obtain ⟨x1, f_, ex1, ef_⟩ : ∃ x1 f_, x1 = wr.alloc (.cells #[.int .i64 t, .slice A' n' c'] 97) ∧ f_ = wr.heap.size := ⟨_, _, rfl, rfl⟩; rw [<- ex1, <- ef_]; have hbx : Below wr.heap.size wr x1 := by rw [ex1]; exact below_alloc1 _ _
   have g_F : w.heap.size <= f_ := by rw [ef_]; exact hz_wr
   have v_F : wr.heap.size <= f_ := by rw [ef_]; exact RR.out.size
   have HY := qs HY hbx; have RR := qt RR hbx; have BF := qq (show Blk x1 f_ 97 #[.int .i64 t, .slice A' n' c'] by rw [ex1, ef_]; exact blk_new1_0 _ _ _ ); have R2 := qq (RW.out.trans (hbx.mono hz_wr)); have hz_x1 := R2.out.size; clear hbx ex1 ef_ RW hz_wr; have kF_0 : x1.cell? ⟨f_, 0, none⟩ = some (.int .i64 t) := BF.out.cell 0; have kF_1 : x1.cell? ⟨f_, 1, none⟩ = some (.slice A' n' c') := BF.out.cell 1; clear hc0 hc1
   go_wp2_with fail
   refine (sizeE_any t A' n' c' d _ HYL.out (by omega)).mono ?_; rintro e y3 ⟨rfl, hb⟩; clear kF_0 kF_1; have hbx : Below x1.heap.size x1 y3 := below_via (by go_grown) hb (by first | (simp; done) | (simp; omega)); have BF := qs BF hbx; have HY := qs HY hbx; have RR := qt RR hbx; have R4 := qq (R2.out.trans (hbx.mono hz_x1)); have hz_y3 := R4.out.size; clear hb hbx  R2 hz_x1; rw [HSZ.out, HER.out]
   by_cases hne : ¬ er = 0
   ·
    have HN := qq (encX_err HE.out.1 hkl.out (by rw [HT.out, HDD.out]; exact HER.out) hne); have e1 : (er == 0) = false := by simpa using hne
    have e2 : (er != 0) = true := by simp [bne, e1]
    clear hne; go_wp2
    go_returns
    exact ⟨none, 0, 0, by rw [<- HR.out, HN.out]; rfl, by rw [<- HR.out, HN.out]; exact Bytes.nil _ _ _ (by decide), R4.out⟩
   obtain rfl : er = 0 := by omega
   clear hne; obtain ⟨n1, n2, n3, n4, n5, n6, n7⟩ := HE.out.next (sz := sz) hkl.out (by rw [HT.out, HDD.out]; first | done | exact HER.out) (by rw [HT.out, HDD.out]; first | done | exact HSZ.out); rw [HT.out] at n4 n5; rw [HDD.out, HYL.out] at n1; have N1 := qq n1; have N6 := qq n6; have N7 := qq n7; clear n1 n6 n7
   cases lg with
   | true =>
    go_wp2
    go_roundw
    case rel => exact ⟨k + 1, mo, co, AO, true, by omega, by go_num, rfl, rfl, N6.out (by first | rfl | trivial), .inl rfl, R4.out, hco⟩
    case measure => simp [intOf]; omega
   | false =>
    have HOW : Hid (wr.ownsRow w.heap.size 5 1 (.slice AO mo co) mo (((fs.take k).flatMap encX).map byteV)) := HO.out.elim (fun h => by cases h) id; have hmo : mo <= co := (own_rd HOW.out).2.1; have hmt := HE.out.2.2 rfl; have hmT : mo <= 1232 := by
     have h2 := HE.out.2.1; have := of_decide_eq_false h2.symm; omega
    clear hmt HO
    by_cases hbig : 1232 < mo + sz
    ·
     have q1 : (1232 : Int) < (mo : Int) + (sz : Int) := by omega
     go_wp2
     go_roundw
     case rel => exact ⟨k + 1, mo, co, AO, true, by omega, by go_num, rfl, rfl, (N7.out (by first | rfl | trivial)).1 hbig, .inl rfl, R4.out, hco⟩
     case measure => simp [intOf]; omega
    have q1 : ¬ (1232 : Int) < (mo : Int) + (sz : Int) := by omega
    have HSM := qq ((N7.out (by first | rfl | trivial)).2 (by omega)); clear N7 N6 hbig; have n9 : 4 + n' <= sz := by have h1 := exSz_ge n'; have h2 := N1.out; omega
    have hmk := fun W => make_cap sz (by omega) W
    have oF := BF.out.lt
    go_upto_region 12 with fail
    clear hmk; obtain ⟨x9, gg, hx9, hgg⟩ : ∃ x9 gg, x9 = y3.alloc (.cells (madeCells #[.int .u8 0] sz) 5) ∧ gg = y3.heap.size := ⟨_, _, rfl, rfl⟩; rw [<- hx9, <- hgg]; have hb9 : Below y3.heap.size y3 x9 := by rw [hx9]; exact below_alloc1 _ _
    have BG : Blk x9 gg 5 (rowX sz []) := by rw [hx9, hgg, <- rowX_zero]; exact Blk.new _ _ _
    have fg : f_ < gg := by rw [hgg]; exact oF
    have wg : wr.heap.size <= gg := by rw [hgg]; exact RR.out.size
    have RR := qt RR hb9; have HY := qs HY hb9; have BF := qs BF hb9; have R9 := qq (R4.out.trans (hb9.mono hz_y3)); have hz_x9 := R9.out.size; clear hx9 hgg; have kf0 : x9.cell? ⟨f_, 0, none⟩ = some (.int .i64 t) := BF.out.cell 0; have kf1 : x9.cell? ⟨f_, 1, none⟩ = some (.slice A' n' c') := BF.out.cell 1; obtain ⟨tn, rfl⟩ := Int.eq_ofNat_of_zero_le n4; have wt : IntKind.u64.wrap (tn : Int) = (tn : Int) := IntWalk.u64_in _ (by omega); have wz : IntKind.u64.wrap (sz : Int) = (sz : Int) := IntWalk.u64_in _ (by omega); have HFG := qq fg; clear fg; refine zBegin (Z := []) (S := fun w' => (w'.cell? ⟨f_, 0, none⟩ = some (.int .i64 (tn : Int)) ∧ w'.cell? ⟨f_, 1, none⟩ = some (.slice A' n' c'))) (by kernel_rfl) ?pz1 (⟨BF.out.drew.cell 0, BF.out.drew.cell 1⟩) (fun hPQ wd hbd hHeld => ?sz1)
    case pz1 => (repeat (with_reducible first | refine PQ.then ?_ | refine PQ.block ?_)); exact fun _ _ d _ _ h => by cases d <;> exact h
    case sz1 =>
     have BG := BG.stays hbd; have HYd := HY.out.stays hbd; have RRd := RR.out.trans (hbd.mono RR.out.size); have BFd := BF.out.stays hbd; have Rd9 := R9.out.trans (hbd.mono hz_x9); clear hbd; refine zVal (i := 0) (d := (some 36)) (v := ?_) rfl rfl (by kernel_rfl) (by kernel_rfl) (by kernel_rfl) (by kernel_rfl) hPQ (by rfl) (fun wq hSw => ?_) hHeld ?_
     rotate_left 1
     · obtain ⟨cS0, cS1⟩ := hSw; go_simp; try with_reducible rfl
     try simp only [qp, qn]
     refine zVal (i := 1) (d := (some 37)) (v := ?_) rfl rfl (by kernel_rfl) (by kernel_rfl) (by kernel_rfl) (by kernel_rfl) hPQ (by rfl) (fun wq hSw => ?_) hHeld ?_
     rotate_left 1
     · obtain ⟨cS0, cS1⟩ := hSw; go_simp; try with_reducible rfl
     try simp only [qp, qn]
     refine zVal (i := 2) (d := (some 38)) (v := ?_) rfl rfl (by kernel_rfl) (by kernel_rfl) (by kernel_rfl) (by kernel_rfl) hPQ (by rfl) (fun wq hSw => ?_) hHeld ?_
     rotate_left 1
     · obtain ⟨cS0, cS1⟩ := hSw; go_simp; try with_reducible rfl
     try simp only [qp, qn]
     refine zVal (i := 3) (d := (some 39)) (v := ?_) rfl rfl (by kernel_rfl) (by kernel_rfl) (by kernel_rfl) (by kernel_rfl) hPQ (by rfl) (fun wq hSw => ?_) hHeld ?_
     rotate_left 1
     · obtain ⟨cS0, cS1⟩ := hSw; go_simp; try with_reducible rfl
     try simp only [qp, qn]
     refine zVal (i := 6) (d := (some 42)) (v := ?_) rfl rfl (by kernel_rfl) (by kernel_rfl) (by kernel_rfl) (by kernel_rfl) hPQ (by rfl) (fun wq hSw => ?_) hHeld ?_
     rotate_left 1
     · obtain ⟨cS0, cS1⟩ := hSw; go_simp; try with_reducible rfl
     try simp only [qp, qn]
     refine zVal (i := 7) (d := (some 43)) (v := ?_) rfl rfl (by kernel_rfl) (by kernel_rfl) (by kernel_rfl) (by kernel_rfl) hPQ (by rfl) (fun wq hSw => ?_) hHeld ?_
     rotate_left 1
     · obtain ⟨cS0, cS1⟩ := hSw; go_simp; try with_reducible rfl
     try simp only [qp, qn]
     refine zVal (i := 10) (d := (some 46)) (v := ?_) rfl rfl (by kernel_rfl) (by kernel_rfl) (by kernel_rfl) (by kernel_rfl) hPQ (by rfl) (fun wq hSw => ?_) hHeld ?_
     rotate_left 1
     · obtain ⟨cS0, cS1⟩ := hSw; go_simp; try with_reducible rfl
     try simp only [qp, qn]
     refine zVal (i := 11) (d := (some 47)) (v := ?_) rfl rfl (by kernel_rfl) (by kernel_rfl) (by kernel_rfl) (by kernel_rfl) hPQ (by rfl) (fun wq hSw => ?_) hHeld ?_
     rotate_left 1
     · obtain ⟨cS0, cS1⟩ := hSw; go_simp; try with_reducible rfl
     try simp only [qp, qn]
     refine zAlone (j := 4) (by kernel_rfl) ?_; refine zOpCall (j := 4) (d := (some 40)) (R := fun v w' => ∃ Ap cp, v = .slice Ap 2 cp ∧ Bytes w' Ap 2 cp (putL tn 2) ∧ Below wd.heap.size wd w') rfl rfl (by rfl) ?rz2 ((put_reads tn 2 (by decide) _).mono fun e q hq => by obtain ⟨Ap, cp, h1, h2, h3⟩ := hq; exact ⟨_, h1, Ap, cp, rfl, h2, h3⟩) (fun v u1 hRv => ?tz2)
     case rz2 => go_simp
     case tz2 =>
      obtain ⟨Ap, cp, rfl, hp, hb1⟩ := hRv; refine ⟨.inr ⟨cell_stays hb1 hHeld.1, cell_stays hb1 hHeld.2⟩, ?_⟩; try simp only [qp, qn]
      have hHeld := And.intro (cell_stays hb1 hHeld.1) (cell_stays hb1 hHeld.2); have BG := BG.stays hb1; have HYd := HYd.stays hb1; have RRd := RRd.trans (hb1.mono RRd.size); have BFd := BFd.stays hb1; clear hb1; refine zAlone (j := 5) (by kernel_rfl) ?_; refine zOpApp (j := 5) (d := (some 41)) (R := fun v w' => v = .slice (some ⟨gg, 0, none⟩) (2) sz ∧ Blk w' gg 5 (rowX sz (putL tn 2)) ∧ u1.grownBy w' (some gg)) rfl rfl (by rfl) rfl (by rfl) (by rfl) (room_ex BG (L := []) (by first | rfl | simp [putL_length]) hp (by omega) (r := 2) (by first | rfl | omega) _) (fun v u2 hRv => ?tz3)
      case tz3 =>
       obtain ⟨rfl, BG, hg2⟩ := hRv; refine ⟨.inr ⟨((BFd.grown hg2 (by have := HFG.out; simp; omega)).cell 0), ((BFd.grown hg2 (by have := HFG.out; simp; omega)).cell 1)⟩, ?_⟩; try simp only [qp, qn]
       have BFd := BFd.grown hg2 (by have := HFG.out; simp; omega); have hHeld : _ ∧ _ := And.intro (BFd.cell 0) (BFd.cell 1); have hbk : Below wr.heap.size u1 u2 := (Below.refl _ _).grown hg2 RRd.size (fun q hq => by injection hq with hq; omega); have RRd := RRd.trans hbk; have HYd : Bytes u2 A' n' c' d := HY0.out.stays RRd; clear hbk; refine zAlone (j := 8) (by kernel_rfl) ?_; refine zOpCall (j := 8) (d := (some 44)) (R := fun v w' => ∃ Ap cp, v = .slice Ap 2 cp ∧ Bytes w' Ap 2 cp (putL sz 2) ∧ Below u2.heap.size u2 w') rfl rfl (by rfl) ?rz4 ((put_reads sz 2 (by decide) _).mono fun e q hq => by obtain ⟨Ap, cp, h1, h2, h3⟩ := hq; exact ⟨_, h1, Ap, cp, rfl, h2, h3⟩) (fun v u3 hRv => ?tz4)
       case rz4 => go_simp
       case tz4 =>
        obtain ⟨Ap, cp, rfl, hp, hb3⟩ := hRv; refine ⟨.inr ⟨cell_stays hb3 hHeld.1, cell_stays hb3 hHeld.2⟩, ?_⟩; try simp only [qp, qn]
        have hHeld := And.intro (cell_stays hb3 hHeld.1) (cell_stays hb3 hHeld.2); have BG := BG.stays hb3; have HYd := HYd.stays hb3; have RRd := RRd.trans (hb3.mono RRd.size); have BFd := BFd.stays hb3; clear hb3; refine zAlone (j := 9) (by kernel_rfl) ?_; refine zOpApp (j := 9) (d := (some 45)) (R := fun v w' => v = .slice (some ⟨gg, 0, none⟩) (4) sz ∧ Blk w' gg 5 (rowX sz (putL tn 2 ++ putL sz 2)) ∧ u3.grownBy w' (some gg)) rfl rfl (by rfl) rfl (by rfl) (by rfl) (room_ex BG (L := putL tn 2) (by first | rfl | simp [putL_length]) hp (by omega) (r := 4) (by first | rfl | omega) _) (fun v u4 hRv => ?tz5)
        case tz5 =>
         obtain ⟨rfl, BG, hg4⟩ := hRv; refine ⟨.inr ⟨((BFd.grown hg4 (by have := HFG.out; simp; omega)).cell 0), ((BFd.grown hg4 (by have := HFG.out; simp; omega)).cell 1)⟩, ?_⟩; try simp only [qp, qn]
         have BFd := BFd.grown hg4 (by have := HFG.out; simp; omega); have hHeld : _ ∧ _ := And.intro (BFd.cell 0) (BFd.cell 1); have hbk : Below wr.heap.size u3 u4 := (Below.refl _ _).grown hg4 RRd.size (fun q hq => by injection hq with hq; omega); have RRd := RRd.trans hbk; have HYd : Bytes u4 A' n' c' d := HY0.out.stays RRd; clear hbk; refine zAlone (j := 12) (by kernel_rfl) ?_; refine zOpApp (j := 12) (d := (some 48)) (R := fun v w' => v = .slice (some ⟨gg, 0, none⟩) (4 + n') sz ∧ Blk w' gg 5 (rowX sz (putL tn 2 ++ putL sz 2 ++ d)) ∧ u4.grownBy w' (some gg)) rfl rfl (by rfl) rfl (by rfl) (by rfl) (room_ex BG (L := putL tn 2 ++ putL sz 2) (by first | rfl | simp [putL_length]) HYd (by omega) (r := 4 + n') (by first | rfl | omega) _) (fun v u5 hRv => ?tz6)
         case tz6 =>
          obtain ⟨rfl, BG, hg5⟩ := hRv; refine ⟨.inr ⟨((BFd.grown hg5 (by have := HFG.out; simp; omega)).cell 0), ((BFd.grown hg5 (by have := HFG.out; simp; omega)).cell 1)⟩, ?_⟩; try simp only [qp, qn]
          have BFd := BFd.grown hg5 (by have := HFG.out; simp; omega); have hHeld : _ ∧ _ := And.intro (BFd.cell 0) (BFd.cell 1); have hbk : Below wr.heap.size u4 u5 := (Below.refl _ _).grown hg5 RRd.size (fun q hq => by injection hq with hq; omega); have RRd := RRd.trans hbk; have HYd : Bytes u5 A' n' c' d := HY0.out.stays RRd; clear hbk; refine zVal (i := 13) (d := (some 10)) (v := ?_) rfl rfl (by kernel_rfl) (by kernel_rfl) (by kernel_rfl) (by kernel_rfl) hPQ (by rfl) (fun wq hSw => ?_) hHeld ?_
          rotate_left 1
          · obtain ⟨cS0, cS1⟩ := hSw; go_simp; try with_reducible rfl
          try simp only [qp, qn]
          refine zDone (by kernel_rfl) ?_ _; have HB5 := qq BG; have HR5 := qq RRd; clear BG RRd BFd HYd hHeld hp kf0 kf1; have szc : sz <= sz := Nat.le_refl _; have HE5 : Hid (Bytes u5 (some ⟨gg, 0, none⟩) sz sz (encX ((tn : Int), d))) := by have := row_bytesN HB5.out (by simp only [List.length_append, putL_length, HYL.out]; have := exSz_ge n'; have := N1.out; omega) (Nat.le_refl _) (by unfold maxLen; omega); rw [enc_parts tn d n' sz HYL.out N1.out] at this; exact this
          have HO5 := qq (own_below HOW.out HR5.out); have R5 := qq (RW0.out.trans (HR5.out.mono RW0.out.size)); have hz_u5 := R5.out.size
          go_wp2_with (at_builtin; refine wpList_append_rd rfl _ _ 27 rfl i0 (.int .u8 0) 1 Tryz.underlying27 hi hz0 hz1 hz2 rfl (by decide) rfl HO5.out rfl HE5.out (oneCell_bytes _) (by unfold maxLen; omega) (by omega) hz_u5 ?_; intro A8 c8 w8 hown8 hg8 hb8)
          have R8 := R5.out.trans hb8; have hc8 : c8 <= 9223372036854775807 := by have := (own_rd hown8).2.2.1; unfold maxLen at this; omega
          have HN8 : Hid (w8.ownsRow w.heap.size 5 1 (.slice A8 (mo + sz) c8) (mo + sz) (((fs.take (k + 1)).flatMap encX).map byteV)) := by
           have e : (fs.take (k + 1)).flatMap encX = (fs.take k).flatMap encX ++ encX ((tn : Int), d) := by rw [take_fld fs k hkl.out, List.flatMap_append, HT.out, HDD.out]; simp
           unfold Hid; rw [e, List.map_append]; exact hown8
          clear hown8 hg8 hb8; go_wp2
          go_roundw
          case rel => exact ⟨k + 1, mo + sz, c8, A8, false, by omega, by go_num, rfl, (by first | rfl | rw [decide_eq_false (by omega)]), HSM, .inr HN8.out, R8, hc8⟩
          case measure => simp [intOf]; omega
  · obtain rfl : k = n := by omega
    have HF := qq (HE.out.done HL.out); rw [HR.out] at HF
    by_cases h24 : 24 < k
    · have q1 : (24 : Int) < (k : Int) := by omega
      have HQ : Hid (R = ([], 8)) := by rw [Hid, HF.out, if_pos h24]
      go_wp2
      go_returns
      exact ⟨none, 0, 0, by rw [HQ.out]; rfl, by rw [HQ.out]; exact Bytes.nil _ _ _ (by decide), hbr⟩
    · have q1 : ¬ (24 : Int) < (k : Int) := by omega
      cases lg with
      | true =>
       have HQ : Hid (R = ([], 2)) := by rw [Hid, HF.out, if_neg h24, if_pos rfl]
       go_wp2
       go_returns
       exact ⟨none, 0, 0, by rw [HQ.out]; rfl, by rw [HQ.out]; exact Bytes.nil _ _ _ (by decide), hbr⟩
      | false =>
       have HQ : Hid (R = (fs.flatMap encX, 0)) := by rw [Hid, HF.out, if_neg h24, if_neg (by decide)]
       have HOW : Hid (wr.ownsRow w.heap.size 5 1 (.slice AO mo co) mo (((fs.take k).flatMap encX).map byteV)) := HO.out.elim (fun h => by cases h) id; have HB : Hid (Bytes wr AO mo co (fs.flatMap encX)) := by have := own_rd HOW.out; rw [List.take_of_length_le (by rw [HL.out]; exact Nat.le_refl _)] at this; exact this
       go_wp2
       go_returns
       exact ⟨AO, mo, co, by rw [HQ.out]; rfl, by rw [HQ.out]; exact HB.out, hbr⟩
abbrev FldsA (w : World) (B : Nat) (A : Option Addr) (n c : Nat) (fs : List (Int × List UInt8)) : Prop := OwnItems 2 encFld Prod.snd 97 w B A n c fs
def IntsA (w : World) (B : Nat) (A : Option Addr) (n c : Nat) (l : List Nat) : Prop := w.ownsRow B 3 1 (.slice A n c) n (l.map fun (x : Nat) => Value.int .i64 (x : Int))
theorem infoInt : (Tryz.prog.info? 3).map (fun i => (i.zero, i.size, i.bytes)) = some (some (.int .i64 0), 1, 8) := by kernel_rfl
def flX (l : List (Nat × (Int × List UInt8))) : List (Int × List UInt8) := l.map Prod.snd
def Scans (R : Int × List (Nat × (Int × List UInt8))) (m p k : Nat) (b : List UInt8) (seen : List (Nat × (Int × List UInt8))) : Prop := b.length <= m ∧ (wkX m p k b).1 = R.1 ∧ (R.1 = 0 -> seen ++ (wkX m p k b).2 = R.2)
theorem Scans.last {R : Int × List (Nat × (Int × List UInt8))} {m p k : Nat} {b : List UInt8} {seen : List (Nat × (Int × List UInt8))} (h : Scans R m p k b seen) (hb : b.length = 0) : R.1 = 0 ∧ R.2 = seen := by
 obtain ⟨h1, h2, h3⟩ := h; have : b = [] := List.eq_nil_of_length_eq_zero hb; subst this; rw [wkX_nil] at h2 h3; have h0 : R.1 = 0 := h2.symm; exact ⟨h0, by have := h3 h0; simpa using this.symm⟩
theorem Scans.bad {R : Int × List (Nat × (Int × List UInt8))} {m p k : Nat} {b : List UInt8} {seen : List (Nat × (Int × List UInt8))} {e : Int} (h : Scans R m p k b seen) (hb : b.length ≠ 0) (he : ∀ m, wkX (m + 1) p k b = (e, [])) : R.1 = e := by
 obtain ⟨h1, h2, h3⟩ := h; obtain ⟨m, rfl⟩ : ∃ m', m = m' + 1 := ⟨m - 1, by omega⟩; rw [he] at h2; exact h2.symm
theorem Scans.next {R : Int × List (Nat × (Int × List UInt8))} {m p k : Nat} {b : List UInt8} {seen : List (Nat × (Int × List UInt8))} (h : Scans R m p k b seen) (h0 : 4 <= b.length) (h1 : two (b.drop 2) % 4 = 0) (h2 : 16 <= two (b.drop 2)) (h3 : two (b.drop 2) <= b.length) (hk : k < 24) :
    Scans R (m - 1) (p + two (b.drop 2)) (k + 1) (b.drop (two (b.drop 2))) (seen ++ [(p, (((two b : Nat) : Int), (b.drop 4).take (two (b.drop 2) - 4)))]) := by
 obtain ⟨g1, g2, g3⟩ := h; obtain ⟨m, rfl⟩ : ∃ m', m = m' + 1 := ⟨m - 1, by omega⟩; rw [wkX_step h0 h1 h2 h3 hk] at g2 g3; refine ⟨by rw [List.length_drop]; omega, g2, fun h => ?_⟩; rw [<- g3 h, List.append_assoc]
 rfl
theorem own_ne {w : World} {B e size n ob T : Nat} {v : Value} {xs : List Value} {cs : Array Value} (h : w.ownsRow B e size v n xs) (hB : Blk w ob T cs) (hne : e ≠ T) : v.ownBlock ≠ some ob := by
 rcases h.2 with ⟨rfl, _⟩ | ⟨g, cap, cur, rfl, _, hg, _⟩
 · intro h; cases h
 · intro h; have hgo : g = ob := by simpa [Value.ownBlock] using h
   subst hgo; have h2 := hg.symm.trans hB; simp only [Option.some.injEq, Obj.cells.injEq] at h2; exact hne h2.2.1
theorem Bytes.ne_blk {w : World} {A : Option Addr} {n c ob T : Nat} {l : List UInt8} {a b d : _} (h : Bytes w A n c l) (hB : Blk w ob T #[.slice a b d]) : Off A n (some ob) := by
 intro x hx hn e; injection e with e
 obtain ⟨b', off, e', hc⟩ := h.at_ hn; rw [hx] at e'; injection e' with e'
 subst e'; simp only [] at e; subst e; rw [hB.cell] at hc
 match off, hc with
 | 0, hc => simp at hc
 | k + 1, hc => simp at hc
theorem grown_puts {w wr : World} {g : Nat} (h : w.grownBy wr (some g)) (k : Nat) (v : Value) : w.grownBy (wr.setCell ⟨g, k, none⟩ v) (some g) :=
 ⟨h.os, h.tape, h.output, by have := h.size; simpa [World.setCell] using this, fun j hj hjb => (Below.heap_setCell _ _ _ _ (fun e => hjb (by rw [e]))).trans (h.block j hj hjb)⟩
theorem put_grown {w : World} (ob i : Nat) (v : Value) : w.grownBy (w.setCell ⟨ob, i, none⟩ v) (some ob) := grown_puts (World.grownBy.refl w _) i v
theorem OwnItems.put_off {w : World} {B n c ob T : Nat} {A : Option Addr} {fs : List (Int × List UInt8)} {a b d : _} (h : FldsA w B A n c fs) (hB : Blk w ob T #[.slice a b d]) (hne : 97 ≠ T) (v : Value) : FldsA (w.setCell ⟨ob, 0, none⟩ v) B A n c fs := by
 obtain ⟨vs, h1, h2⟩ := h; have hg := put_grown (w := w) ob 0 v; refine ⟨vs, h1.kept hg (.inr (own_ne h1 hB hne)), h2.1, fun i x hx => ?_⟩; obtain ⟨A', n', c', e1, e2, e3⟩ := h2.2 i x hx; exact ⟨A', n', c', e1, e2.kept hg (e2.ne_blk hB), e3⟩
theorem visD (B ob : Nat) (AO : Option Addr) (mo co : Nat) (fs : List (Int × List UInt8)) (p : Nat) (t : Int) (A' : Option Addr) (n' c' : Nat) (d : List UInt8) (w : World) (hB : Blk w ob 49 #[.slice AO mo co]) (hob : B <= ob) (hz : B <= w.heap.size) (ho : FldsA w B AO mo co fs) (hd : Bytes w A' n' c' d) (hoff : Off A' n' (Value.slice AO mo co).ownBlock) (hmo : mo <= 1000) :
    Calls Tryz.prog 112 #[.int .i64 p, .agg #[.int .i64 t, .slice A' n' c'], .pointer (some ⟨ob, 0, none⟩)] w fun e w' => e = .returned (.tuple #[]) ∧ ∃ A8 c8, Blk w' ob 49 #[.slice A8 (mo + 1) c8] ∧ FldsA w' B A8 (mo + 1) c8 (fs ++ [(t, d)]) ∧ Below B w w' := by
 obtain ⟨i0, hi, hz0, hz1, hz2⟩ := info_parts infoFld; have HO := qq ho; have HD := qq hd; have BO := qq hB; have HOF := qq hoff; have HZ := qq (And.intro hz hob); have hm1 : mo + 1 <= maxLen := by unfold maxLen; omega
 have HM1 := qq hm1; have HM := qq hmo; have q1 := ho.le; have q2 := ho.cap; have q3 : co <= 9223372036854775807 := by first | exact q2 | (unfold maxLen at q2; omega)
 have HNE := qq ((by obtain ⟨vs, h1, _⟩ := ho; exact own_ne h1 hB (by decide) : (Value.slice AO mo co).ownBlock ≠ some ob)); clear ho hd hB hoff hz hob hm1 hmo q2
 go_enter Tryz.func112, Tryz.ntmps112
 have oO := BO.out.lt
 go_upto_region 1 with fail
 obtain ⟨x1, f_, ex1, ef_⟩ : ∃ x1 f_, x1 = w.alloc (.cells #[.int .i64 t, .slice A' n' c'] 97) ∧ f_ = w.heap.size := ⟨_, _, rfl, rfl⟩; rw [<- ex1, <- ef_]; have hbx : Below w.heap.size w x1 := by rw [ex1]; exact below_alloc1 _ _
 have o_O_F : ob < f_ := by rw [ef_]; exact BO.out.lt
 have g_F : w.heap.size <= f_ := by rw [ef_]; exact Nat.le_refl _
 have BO := qs BO hbx; have HD := qs HD hbx; have HO := qs HO hbx; have BF := qq (show Blk x1 f_ 97 #[.int .i64 t, .slice A' n' c'] by rw [ex1, ef_]; exact blk_new1_0 _ _ _ ); have R2 := qq hbx; have hz_x1 := R2.out.size; clear hbx ex1 ef_; have kO_0 : x1.cell? ⟨ob, 0, none⟩ = some (.slice AO mo co) := BO.out.cell 0; have kF_0 : x1.cell? ⟨f_, 0, none⟩ = some (.int .i64 t) := BF.out.cell 0; have kF_1 : x1.cell? ⟨f_, 1, none⟩ = some (.slice A' n' c') := BF.out.cell 1; have fO_0 := BO.out.frozen 0
 go_wp2_with (at_builtin; refine wpList_append_items rfl _ _ 49 rfl i0 _ 32 Tryz.underlying49 hi hz0 hz1 hz2 rfl (by decide) rfl (HO.out.stays (Below.alloc (Below.refl x1.heap.size x1) (Nat.le_refl _) (.cells #[.int .i64 t, .slice A' n' c'] 97))) rfl (t, d) (A1 := A') (n1 := n') (c1 := c') (by simp [encFld]) (rd_pair _ _ _ _) (by simp [encFld, Value.oneCell']) (HD.out.stays (Below.alloc (Below.refl x1.heap.size x1) (Nat.le_refl _) (.cells #[.int .i64 t, .slice A' n' c'] 97))) HOF.out HM1.out (by have := HM.out; omega) (by have := HZ.out.1; have := R2.out.size; simp; omega) ?_; intro A8 c8 w8 hown8 hg8 hb8; have BO8 : Blk w8 ob 49 #[.slice AO mo co] := (BO.out.stays (Below.alloc (Below.refl x1.heap.size x1) (Nat.le_refl _) (.cells #[.int .i64 t, .slice A' n' c'] 97))).grown hg8 HNE.out.symm; have kO : w8.cell? ⟨ob, 0, none⟩ = some (.slice AO mo co) := BO8.cell 0; have fO : w8.frozen? ⟨ob, 0, none⟩ = false := BO8.frozen 0; have lO := BO8.lt; have BO8 := qq BO8; have HG8 := qq hg8; have HB8 := qq hb8; have HO8 := qq hown8; clear hg8 hb8 hown8)
 clear kO_0 kF_0 kF_1 fO_0; have hb9 : Below B x1 w8 := ((Below.refl B x1).alloc (by have := HZ.out.1; have := R2.out.size; omega) _).trans HB8.out; have hb10 := qq ((R2.out.mono HZ.out.1).trans hb9); clear hb9; go_wp2
 go_returns
 exact ⟨by first | rfl | trivial, A8, c8, BO8.out.put 0 _, HO8.out.put_off BO8.out (by decide) _, hb10.out.setCell (p := ⟨ob, 0, none⟩) HZ.out.2 _⟩
theorem Bytes.below {w0 w : World} {A : Option Addr} {n c : Nat} {l : List UInt8} (h : Bytes w0 A n c l) (hb : Below w0.heap.size w0 w) : Bytes w A n c l := h.stays hb
theorem get2_any (A : Option Addr) (c : Nat) (l : List UInt8) (ty : Nat) (w : World) (h : Bytes w A 2 c l) (he : be64 l 2 = ty) :
    Calls Tryz.prog 71 #[.slice A 2 c] w fun e w' => e = .returned (.int .u64 ty) ∧ w = w' := by
 subst he; exact get_any A 2 c l w h
def PostscanD (ob : Nat) (w0 : World) (R : Int × List (Nat × (Int × List UInt8))) (w' : World) : Prop := ∃ (AO : Option Addr) (mo co : Nat) (fs' : List (Int × List UInt8)), Blk w' ob 49 #[.slice AO mo co] ∧ FldsA w' w0.heap.size AO mo co fs' ∧ (R.1 = 0 -> fs' = flX R.2) ∧ Below w0.heap.size w0 w'
theorem scanD (ob : Nat) (A : Option Addr) (n c : Nat) (l : List UInt8) (w0 w : World) (hb : Bytes w0 A n c l) (hbw : Below w0.heap.size w0 w) (hB : Blk w ob 49 #[.slice none 0 0]) (hob : w0.heap.size <= ob) :
    Calls Tryz.prog 111 #[.slice A n c, .func (.func 112) #[] #[.pointer (some ⟨ob, 0, none⟩)]] w fun e w' => e = .returned (.int .i64 (readX l).1) ∧ PostscanD ob w0 (readX l) w' := by
 obtain ⟨R, hR⟩ : ∃ R, readX l = R := ⟨_, rfl⟩; rw [hR]; have HR := qq hR; have hcap := hb.cap; have hle := hb.le; have HB := qq hb; have HLl := qq hb.len; have HW := qq hbw; have BO := qq hB; have HOB := qq hob; clear hb hbw hB hob hR
 by_cases hbig : 1232 < n
 ·
  have q1 : (1232 : Int) < (n : Int) := by omega
  have HE : Hid (R = (2, [])) := by rw [Hid, <- HR.out, readX, if_pos (by rw [HLl.out]; exact hbig)]
  go_enter Tryz.func111, Tryz.ntmps111
  go_wp2
  go_returns
  exact ⟨by rw [HE.out]; rfl, none, 0, 0, [], BO.out, OwnItems.nil _ _, (fun h => (by rw [HE.out] at h; cases h)), HW.out⟩
 have q1 : ¬ (1232 : Int) < (n : Int) := by omega
 have HS0 : Hid (Scans R n 0 0 l []) := by
  have e : R = wkX n 0 0 l := by rw [<- HR.out, readX, if_neg (by rw [HLl.out]; exact hbig), HLl.out]
  exact ⟨by rw [HLl.out]; exact Nat.le_refl _, by rw [e], fun _ => by rw [e]; rfl⟩
 go_enter Tryz.func111, Tryz.ntmps111
 go_wp2_with fail
 go_loopw [5, 6] (fun pv kv wr => ∃ (p k m co : Nat) (AO : Option Addr) (seen : List (Nat × (Int × List UInt8))), p <= n ∧ k <= 24 ∧ pv = .int .i64 p ∧ kv = .int .i64 k ∧ Hid (Scans R m p k (l.drop p) seen) ∧ Hid (Blk wr ob 49 #[.slice AO k co]) ∧ Hid (FldsA wr w0.heap.size AO k co (flX seen)) ∧ Below w0.heap.size w0 wr) (fun pv _ _ => n - (intOf pv).toNat)
 case atStart => exact ⟨0, 0, n, 0, none, [], Nat.zero_le _, by decide, rfl, rfl, HS0, BO, OwnItems.nil _ _, HW.out⟩
 case round =>
  clear BO HW HS0; obtain ⟨p, k, m, co, AO, seen, hp, hk24, rfl, rfl, HS, BO, HO, hbr⟩ := hrel; have RW := qq hbr; have hz_wr := hbr.size
  by_cases hpn : p < n
  ·
   obtain ⟨d, hd⟩ : ∃ d, n - p = d := ⟨_, rfl⟩; have hd0 : 0 < d := by omega
   have hdn1 : p + d <= n := by omega
   have hdn2 : n <= p + d := by omega
   have s1 := run_cutFrom und_bytes size_byte (A := A) (n := n) (c := c) (p : Int) p d (c - p) rfl (by omega) hd rfl; have V0 := qq (HB.out.cutFrom p (by omega) (d := d) (k := c - p) hd rfl); have HLR := qq V0.out.len; obtain ⟨rest, hrest⟩ : ∃ rest, l.drop p = rest := ⟨_, rfl⟩; rw [hrest] at V0 HLR HS; obtain ⟨AR, hAR⟩ : ∃ AR, cutA A c p = AR := ⟨_, rfl⟩; rw [hAR] at s1 V0; obtain ⟨cr, hcr⟩ : ∃ cr, c - p = cr := ⟨_, rfl⟩; rw [hcr] at s1 V0; have hcd : d <= cr := by omega
   have hcr2 : cr <= 9223372036854775807 := by omega
   have HREST := qq hrest; have hpi : (p : Int) < (n : Int) := by omega
   clear hAR hrest hd hcr hbr
   by_cases h4 : d < 4
   ·
    have h4i : (d : Int) < 4 := by omega
    have HN := qq (HS.out.bad (by rw [HLR.out]; omega) (e := 1) (fun m => wkX_short (by rw [HLR.out]; omega) (by rw [HLR.out]; exact h4))); go_wp2
    go_returns
    exact ⟨by rw [HN.out]; rfl, AO, k, co, flX seen, BO.out, HO.out, (fun h => (by rw [HN.out] at h; cases h)), RW.out⟩
   have h4i : ¬ (d : Int) < 4 := by omega
   have s2 := run_cut und_bytes size_byte (A := AR) (n := d) (c := cr) 2 4 2 4 2 (cr - 2) rfl rfl (by omega) (by omega) rfl rfl; have V2 := qq (V0.out.cutS 2 4 (by omega) (by omega) (d := 2) (k := cr - 2) rfl rfl); obtain ⟨q, hq⟩ : ∃ q, two (rest.drop 2) = q := ⟨_, rfl⟩; obtain ⟨ty, hty⟩ : ∃ ty, two rest = ty := ⟨_, rfl⟩; have q5 : q < 65536 := by rw [<- hq]; exact two_lt _ (by rw [List.length_drop, HLR.out]; omega)
   have t5 : ty < 65536 := by rw [<- hty]; exact two_lt _ (by rw [HLR.out]; omega)
   have E1 : Hid (be64 ((rest.drop 2).take 2) 2 = q) := hq; have E2 : Hid (be64 (rest.take 2) 2 = ty) := hty; have HQ := qq hq; have HT := qq hty; clear hq hty; have wq : IntKind.i64.wrap (q : Int) = (q : Int) := IntWalk.i64_in _ (by omega); have wt : IntKind.i64.wrap (ty : Int) = (ty : Int) := IntWalk.i64_in _ (by omega); obtain ⟨r4, hr4⟩ : ∃ r4, q % 4 = r4 := ⟨_, rfl⟩; have er : (q : Int) % 4 = (r4 : Int) := by omega
   by_cases hf : ¬ r4 = 0
   ·
    have e1 : ((r4 : Int) == 0) = false := by simp; omega
    have e2 : ((r4 : Int) != 0) = true := by simp [bne, e1]
    have HN := qq (HS.out.bad (by rw [HLR.out]; omega) (e := 3) (fun m => wkX_form (by rw [HLR.out]; omega) (.inl (by rw [HQ.out]; omega)))); clear hf hr4
    go_wp2_with fail
    refine (get2_any _ _ _ _ _ (V2.out.below RW.out) E1.out).mono ?_; rintro e wx ⟨rfl, rfl⟩; go_wp2
    go_returns
    exact ⟨by rw [HN.out]; rfl, AO, k, co, flX seen, BO.out, HO.out, (fun h => (by rw [HN.out] at h; cases h)), RW.out⟩
   obtain rfl : r4 = 0 := by omega
   clear hf
   by_cases h16 : q < 16
   ·
    have e1 : (q : Int) < 16 := by omega
    have HN := qq (HS.out.bad (by rw [HLR.out]; omega) (e := 3) (fun m => wkX_form (by rw [HLR.out]; omega) (.inr (by rw [HQ.out]; omega))))
    go_wp2_with fail
    refine (get2_any _ _ _ _ _ (V2.out.below RW.out) E1.out).mono ?_; rintro e wx ⟨rfl, rfl⟩; go_wp2
    go_returns
    exact ⟨by rw [HN.out]; rfl, AO, k, co, flX seen, BO.out, HO.out, (fun h => (by rw [HN.out] at h; cases h)), RW.out⟩
   have e16 : ¬ (q : Int) < 16 := by omega
   by_cases hqd : d < q
   ·
    have e1 : (d : Int) < (q : Int) := by omega
    have HN := qq (HS.out.bad (by rw [HLR.out]; omega) (e := 1) (fun m => wkX_less (by rw [HLR.out]; omega) (by rw [HQ.out]; omega) (by rw [HQ.out]; omega) (by rw [HLR.out, HQ.out]; omega)))
    go_wp2_with fail
    refine (get2_any _ _ _ _ _ (V2.out.below RW.out) E1.out).mono ?_; rintro e wx ⟨rfl, rfl⟩; go_wp2
    go_returns
    exact ⟨by rw [HN.out]; rfl, AO, k, co, flX seen, BO.out, HO.out, (fun h => (by rw [HN.out] at h; cases h)), RW.out⟩
   have eqd : ¬ (d : Int) < (q : Int) := by omega
   by_cases hk : k = 24
   ·
    have HN := qq (HS.out.bad (by rw [HLR.out]; omega) (e := 8) (fun m => wkX_limit (by rw [HLR.out]; omega) (by rw [HQ.out]; omega) (by rw [HQ.out]; omega) (by rw [HLR.out, HQ.out]; omega) hk)); subst hk
    go_wp2_with fail
    refine (get2_any _ _ _ _ _ (V2.out.below RW.out) E1.out).mono ?_; rintro e wx ⟨rfl, rfl⟩; go_wp2
    go_returns
    exact ⟨by rw [HN.out]; rfl, AO, 24, co, flX seen, BO.out, HO.out, (fun h => (by rw [HN.out] at h; cases h)), RW.out⟩
   have ek : ((k : Int) == 24) = false := by simp; omega
   have HNX := qq (HS.out.next (by rw [HLR.out]; omega) (by rw [HQ.out]; omega) (by rw [HQ.out]; omega) (by rw [HLR.out, HQ.out]; omega) (by omega)); rw [HQ.out, HT.out] at HNX; have hdq : q <= d := by omega
   have s3 := run_cut und_bytes size_byte (A := AR) (n := d) (c := cr) 4 (q : Int) 4 q (q - 4) (cr - 4) rfl rfl (by omega) (by omega) rfl rfl; have V3 := qq (V0.out.cutTo 2 (by omega)); have V4 := qq (V0.out.cutS 4 q (by omega) (by omega) (d := q - 4) (k := cr - 4) rfl rfl); have p2 : (2 : Int) <= (cr : Int) := by omega
   go_wp2_with fail
   refine (get2_any _ _ _ _ _ (V2.out.below RW.out) E1.out).mono ?_; rintro e wx ⟨rfl, rfl⟩
   go_upto_region 16 with fail
   refine zBegin (Z := []) (S := fun w' => Below w0.heap.size w0 w') (by kernel_rfl) ?pz1 (RW.out.drew) (fun hPQ wd hbd hHeld => ?sz1)
   case pz1 => (repeat (with_reducible first | refine PQ.then ?_ | refine PQ.block ?_)); exact fun _ _ d _ _ h => by cases d <;> exact h
   case sz1 =>
    have BO := qs BO hbd; have HO := qs HO hbd; clear hbd; refine zVal (i := 0) (d := (some 44)) (v := ?_) rfl rfl (by kernel_rfl) (by kernel_rfl) (by kernel_rfl) (by kernel_rfl) hPQ (by rfl) (fun wq hSw => ?_) hHeld ?_
    rotate_left 1
    · go_simp; try with_reducible rfl
    try simp only [qp, qn]
    refine zVal (i := 1) (d := (some 45)) (v := ?_) rfl rfl (by kernel_rfl) (by kernel_rfl) (by kernel_rfl) (by kernel_rfl) hPQ (by rfl) (fun wq hSw => ?_) hHeld ?_
    rotate_left 1
    · go_simp; try with_reducible rfl
    try simp only [qp, qn]
    refine zVal (i := 2) (d := (some 46)) (v := ?_) rfl rfl (by kernel_rfl) (by kernel_rfl) (by kernel_rfl) (by kernel_rfl) hPQ (by rfl) (fun wq hSw => ?_) hHeld ?_
    rotate_left 1
    · go_simp; try with_reducible rfl
    try simp only [qp, qn]
    refine zVal (i := 3) (d := (some 47)) (v := ?_) rfl rfl (by kernel_rfl) (by kernel_rfl) (by kernel_rfl) (by kernel_rfl) hPQ (by rfl) (fun wq hSw => ?_) hHeld ?_
    rotate_left 1
    · go_simp; try with_reducible rfl
    try simp only [qp, qn]
    refine zVal (i := 6) (d := (some 50)) (v := ?_) rfl rfl (by kernel_rfl) (by kernel_rfl) (by kernel_rfl) (by kernel_rfl) hPQ (by rfl) (fun wq hSw => ?_) hHeld ?_
    rotate_left 1
    · go_simp; try with_reducible rfl
    try simp only [qp, qn]
    refine zVal (i := 7) (d := (some 51)) (v := ?_) rfl rfl (by kernel_rfl) (by kernel_rfl) (by kernel_rfl) (by kernel_rfl) hPQ (by rfl) (fun wq hSw => ?_) hHeld ?_
    rotate_left 1
    · go_simp; try with_reducible rfl
    try simp only [qp, qn]
    refine zVal (i := 8) (d := (some 52)) (v := ?_) rfl rfl (by kernel_rfl) (by kernel_rfl) (by kernel_rfl) (by kernel_rfl) hPQ (by rfl) (fun wq hSw => ?_) hHeld ?_
    rotate_left 1
    · go_simp; try with_reducible rfl
    try simp only [qp, qn]
    refine zCall (i := 4) (d := (some 48)) rfl rfl (by kernel_rfl) (by kernel_rfl) (by kernel_rfl) (by kernel_rfl) hPQ (by rfl) (fun wq hSw => (get2_any _ _ _ _ _ (V3.out.below hSw) E2.out).mono (fun e q hq => ⟨hq.1, by first | exact hq.2 | exact hq.2.symm⟩)) (fun wq hSw => ?_) hHeld ?_
    · go_simp
    try simp only [qp, qn]
    refine zVal (i := 5) (d := (some 49)) (v := ?_) rfl rfl (by kernel_rfl) (by kernel_rfl) (by kernel_rfl) (by kernel_rfl) hPQ (by rfl) (fun wq hSw => ?_) hHeld ?_
    rotate_left 1
    · go_simp; try with_reducible rfl
    try simp only [qp, qn]
    refine zAlone (j := 9) (by kernel_rfl) ?_; refine zOpCall (j := 9) (d := (some 53)) (R := fun v w' => ∃ Ap cp, v = .slice Ap (q - 4) cp ∧ w'.ownsRow wd.heap.size 5 1 (.slice Ap (q - 4) cp) (q - 4) (((rest.drop 4).take (q - 4)).map byteV) ∧ Below wd.heap.size wd w') rfl rfl (by rfl) ?rz2 ((clone_any _ _ _ _ _ (V4.out.below hHeld) (by omega)).mono fun e q hq => by obtain ⟨Ap, cp, h1, h2, h3⟩ := hq; exact ⟨_, h1, Ap, cp, rfl, h2, h3⟩) (fun v u1 hRv => ?tz2)
    case rz2 => go_simp
    case tz2 =>
     obtain ⟨AD, cD, rfl, hD, hb1⟩ := hRv; refine ⟨.inr (hHeld.trans (hb1.mono hHeld.size)), ?_⟩; try simp only [qp, qn]
     have hH1 := hHeld.trans (hb1.mono hHeld.size); have HOF : Off AD (q - 4) (Value.slice AO k co).ownBlock := Off.fresh (Fresh.own hD) (HO.out.lt); have BO := qs BO hb1; have HO := qs HO hb1; have hHeld := hH1; clear hb1 hH1; refine zVal (i := 10) (d := (some 54)) (v := ?_) rfl rfl (by kernel_rfl) (by kernel_rfl) (by kernel_rfl) (by kernel_rfl) hPQ (by rfl) (fun wq hSw => ?_) hHeld ?_
     rotate_left 1
     · go_simp; try with_reducible rfl
     try simp only [qp, qn]
     refine zAlone (j := 11) (by kernel_rfl) ?_; refine zOpCall (j := 11) (d := (some 55)) (R := fun v w' => v = .tuple #[] ∧ ∃ A8 c8, Blk w' ob 49 #[.slice A8 (k + 1) c8] ∧ FldsA w' w0.heap.size A8 (k + 1) c8 (flX seen ++ [((ty : Int), (rest.drop 4).take (q - 4))]) ∧ Below w0.heap.size u1 w') rfl rfl (by rfl) ?rz3 ((visD w0.heap.size ob AO k co (flX seen) p (ty : Int) AD (q - 4) cD ((rest.drop 4).take (q - 4)) _ BO.out HOB.out hHeld.size HO.out (own_rd hD) HOF (by omega)).mono fun e q hq => by obtain ⟨h1, A8, c8, h2, h3, h4⟩ := hq; exact ⟨_, h1, rfl, A8, c8, h2, h3, h4⟩) (fun v u2 hRv => ?tz3)
     case rz3 => go_simp
     case tz3 =>
      obtain ⟨rfl, A8, c8, hB8, hO8, hb2⟩ := hRv; refine ⟨.inr (hHeld.trans hb2), ?_⟩; try simp only [qp, qn]
      have R2 := hHeld.trans hb2; have B2 := qq hB8; have O2 : Hid (FldsA u2 w0.heap.size A8 (k + 1) c8 (flX (seen ++ [(p, ((ty : Int), (rest.drop 4).take (q - 4)))]))) := by rw [Hid]; simpa [flX] using hO8
      have HN2 : Hid (Scans R (m - 1) (p + q) (k + 1) (l.drop (p + q)) (seen ++ [(p, ((ty : Int), (rest.drop 4).take (q - 4)))])) := by have h := HNX.out; have hdd : rest.drop q = l.drop (p + q) := (by rw [<- HREST.out, List.drop_drop]); rw [hdd] at h; exact h
      clear hHeld hb2 hB8 hO8 HOF hD; refine zDone (by kernel_rfl) ?_ _; go_wp2
      go_roundw
      case rel => exact ⟨p + q, k + 1, m - 1, c8, A8, _, by omega, by omega, by go_num, by go_num, HN2, B2, O2, R2⟩
      case measure => simp [intOf]; omega
  · obtain rfl : p = n := by omega
    have HF := qq (HS.out.last (by rw [List.length_drop, HLl.out]; omega)); have q9 : ¬ (p : Int) < (p : Int) := by omega
    go_wp2
    go_returns
    exact ⟨by rw [HF.out.1]; rfl, AO, k, co, flX seen, BO.out, HO.out, (fun _ => (by rw [HF.out.2])), RW.out⟩
end Go.Proofs.YtiemnacoebkalaaGreat
