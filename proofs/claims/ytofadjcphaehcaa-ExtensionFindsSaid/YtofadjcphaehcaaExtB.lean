/- extension.Encode. -/
import Derived.Test.YtofadjcphaehcaaExtA
import Derived.Test.YtofadjcphaehcaaPut
namespace Go.Proofs.Ytofadjcphaehcaa
open Go.RowKit

theorem fld_eq (fs : List (Int × List UInt8)) (k : Nat) (h : k < fs.length) : fs[k] = (fldT fs k, fldD fs k) := by simp [fldT, fldD, List.getD, h]
theorem take_fld (fs : List (Int × List UInt8)) (k : Nat) (h : k < fs.length) : fs.take (k + 1) = fs.take k ++ [(fldT fs k, fldD fs k)] := by
  rw [List.take_succ_eq_append_getElem h, fld_eq fs k h]
theorem encX_err {fs : List (Int × List UInt8)} {k : Nat} {er : Int} (h0 : errX (fs.take k) = 0) (h : k < fs.length) (he : (sizeX (fldT fs k, fldD fs k)).2 = er) (hn : ¬ er = 0) : encodeX fs = ([], er) := by
  have e : fs = fs.take k ++ ((fldT fs k, fldD fs k) :: fs.drop (k + 1)) := by
    rw [← fld_eq fs k h, ← List.drop_eq_getElem_cons h, List.take_append_drop]
  have e2 : errX fs = er := by
    conv => lhs; rw [e]
    rw [errX_append _ _ h0, errX, if_neg (by rw [he]; exact hn), he]
  rw [encodeX, if_neg (by rw [e2]; exact hn), e2]
/-- What the rounds of Encode keep. -/
def EncIs (fs : List (Int × List UInt8)) (k : Nat) (lg : Bool) (mo : Nat) : Prop := errX (fs.take k) = 0 ∧ lg = decide (1232 < totX (fs.take k)) ∧ (lg = false → mo = totX (fs.take k))
theorem EncIs.next {fs : List (Int × List UInt8)} {k mo sz : Nat} {lg : Bool} (h : EncIs fs k lg mo) (hk : k < fs.length) (he : (sizeX (fldT fs k, fldD fs k)).2 = 0) (hs : (sizeX (fldT fs k, fldD fs k)).1 = sz) :
    sz = exSz (fldD fs k).length ∧ 16 ≤ sz ∧ sz ≤ 1232 ∧ 0 ≤ fldT fs k ∧ fldT fs k ≤ 65535 ∧ (lg = true → EncIs fs (k + 1) true mo) ∧ (lg = false → (1232 < mo + sz → EncIs fs (k + 1) true mo) ∧ (mo + sz ≤ 1232 → EncIs fs (k + 1) false (mo + sz))) := by
  obtain ⟨h1, h2, h3⟩ := h
  obtain ⟨a1, a2, a3, a4⟩ := sizeX_ok he
  rw [hs] at a4
  have b := exSz_ge (fldD fs k).length
  have ht := take_fld fs k hk
  have e1 : errX (fs.take (k + 1)) = 0 := by rw [ht, errX_append _ _ h1, errX, if_pos he]; rfl
  have e2 : totX (fs.take (k + 1)) = totX (fs.take k) + sz := by rw [ht, totX_append, totX, totX, a4]; rfl
  simp only [] at a3 a4
  refine ⟨a4, by omega, by omega, a1, a2, fun hl => ⟨e1, ?_, fun h => by cases h⟩, fun hl => ⟨fun h => ⟨e1, ?_, fun h => by cases h⟩, fun h => ⟨e1, ?_, fun _ => ?_⟩⟩⟩
  · rw [hl] at h2
    have := of_decide_eq_true h2.symm
    rw [e2]; exact (decide_eq_true (by omega)).symm
  · have := h3 hl
    rw [e2]; exact (decide_eq_true (by omega)).symm
  · have := h3 hl
    rw [e2]; exact (decide_eq_false (by omega)).symm
  · have := h3 hl
    rw [e2]; omega
theorem EncIs.done {fs : List (Int × List UInt8)} {k mo : Nat} {lg : Bool} (h : EncIs fs k lg mo) (hk : fs.length = k) : encodeX fs = if 24 < k then ([], 8) else if lg = true then ([], 2) else (fs.flatMap encX, 0) := by
  obtain ⟨h1, h2, h3⟩ := h
  rw [List.take_of_length_le (by omega)] at h1 h2
  rw [encodeX, if_pos h1, hk]
  by_cases h24 : 24 < k
  · rw [if_pos h24, if_pos h24]
  · rw [if_neg h24, if_neg h24, h2]
    by_cases ht : 1232 < totX fs
    · rw [if_pos ht, if_pos (decide_eq_true ht)]
    · rw [if_neg ht, if_neg (by rw [decide_eq_false ht]; decide)]
theorem room_ex {w : World} {g n k m c r : Nat} {A : Option Addr} {L P : List UInt8} (hB : Blk w g 5 (rowB n L)) (hk : L.length = k) (hP : Bytes w A m c P) (hr : k + m ≤ n) (he : k + m = r) (ty : TypeId) :
    ∃ v w', (Builtin.append_ #[23, 23] ty #[.slice (some ⟨g, 0, none⟩) k n, .slice A m c]).run Try.prog w = .ok v w' ∧ v = .slice (some ⟨g, 0, none⟩) r n ∧ Blk w' g 5 (rowB n (L ++ P)) ∧ w.grownBy w' (some g) := by
  subst he
  obtain ⟨w', h1, h2, h3⟩ := run_room hB hk hP hr ty
  exact ⟨_, w', h1, rfl, h2, h3⟩
theorem enc_parts (t : Nat) (d : List UInt8) (n sz : Nat) (hd : d.length = n) (hs : sz = exSz n) : ((putL t 2 ++ putL sz 2 ++ d) ++ List.replicate (sz - (putL t 2 ++ putL sz 2 ++ d).length) 0).take sz = encX ((t : Int), d) := by
  have hz := exSz_ge n
  have e : (putL t 2 ++ putL sz 2 ++ d).length = 4 + n := by simp only [List.length_append, putL_length]; omega
  rw [List.take_of_length_le (by rw [List.length_append, List.length_replicate, e]; omega), e, encX]
  simp only [Int.toNat_natCast]
  rw [hd, ← hs]
theorem make_cap (n : Nat) (hn : n ≤ 1000000) (w : World) : (Instr.makeSlice 23 (.int .i64 0) (.int .i64 n)).run Try.prog w =
    .ok (.slice (some ⟨w.heap.size, 0, none⟩) 0 n) (w.alloc (.cells (madeCells #[.int .u8 0] n) 5)) := by
  obtain ⟨i0, hi, hz0, hz1, hz2⟩ := info_parts infoByteA
  have := run_make (P := Try.prog) w 23 5 i0 (.int .u8 0) Try.underlying23 hi hz0 .i64 .i64 0 n (by omega) (by omega) (by rw [hz2]; omega) (by omega)
  simpa [hz1, Value.cells] using this
set_option maxRecDepth 100000 in
set_option maxHeartbeats 4000000 in
theorem encode_any (A : Option Addr) (n c : Nat) (fs : List (Int × List UInt8)) (w : World) (hv : FldL w A n c fs) (hd : ∀ k, (fldD fs k).length ≤ 100000) :
    Calls Try.prog 29 #[.slice A n c] w fun e w' => ∃ A' n' c', e = .returned (.tuple #[.slice A' n' c', .int .i64 (encodeX fs).2]) ∧ Bytes w' A' n' c' (encodeX fs).1 ∧ Below w.heap.size w w' := by
  obtain ⟨i0, hi, hz0, hz1, hz2⟩ := info_parts infoByteA
  have hcap := hv.cap
  have hle := hv.le
  have HL := Lib.hid hv.len
  have HV := Lib.hid hv
  have HD := Lib.hid hd
  obtain ⟨R, hR⟩ : ∃ R, encodeX fs = R := ⟨_, rfl⟩
  rw [hR]
  have HR := Lib.hid hR
  clear hv hR hd
  go_enter Try.func29, Try.ntmps29
  go_wp2
  go_loopw [4, 5, 13] (fun s g i wr => ∃ (k mo co : Nat) (AO : Option Addr) (lg : Bool), k ≤ n ∧ i = .int .i64 k ∧ s = .slice AO mo co ∧ g = .bool lg ∧ Hid (EncIs fs k lg mo) ∧ Hid (lg = true ∨ wr.ownsRow w.heap.size 5 1 (.slice AO mo co) mo (((fs.take k).flatMap encX).map byteV)) ∧ Below w.heap.size w wr ∧ co ≤ 9223372036854775807) (fun _ _ i _ => n - (intOf i).toNat)
  case atStart => exact ⟨0, 0, 0, none, false, Nat.zero_le _, rfl, rfl, rfl, ⟨rfl, rfl, fun _ => rfl⟩, .inr (own_nil _ _ _ _), Below.refl _ _, by decide⟩
  case round =>
    obtain ⟨k, mo, co, AO, lg, hk, rfl, rfl, rfl, HE, HO, hbr, hco⟩ := hrel
    have RW := Lib.hid hbr
    have hz_wr := hbr.size
    by_cases hkn : k < n
    ·
      have hkl : Hid (k < fs.length) := by rw [Hid, HL.out]; exact hkn
      obtain ⟨bb, off, A', n', c', rfl, hc0, hc1, hy⟩ := (HV.out.stays hbr).at_ hkn
      have hyl := hy.len
      have hyd : n' ≤ 100000 := by rw [← hyl]; exact HD.out k
      have HY := Lib.hid hy
      have HYL := Lib.hid hyl
      have yl := hy.le
      have yc := hy.cap
      clear hy hyl hbr
      obtain ⟨sz, hsz⟩ : ∃ sz, (sizeX (fldT fs k, fldD fs k)).1 = sz := ⟨_, rfl⟩
      obtain ⟨er, her⟩ : ∃ er, (sizeX (fldT fs k, fldD fs k)).2 = er := ⟨_, rfl⟩
      have HSZ := Lib.hid hsz
      have HER := Lib.hid her
      clear hsz her
      obtain ⟨t, ht⟩ : ∃ t, fldT fs k = t := ⟨_, rfl⟩
      obtain ⟨d, hd⟩ : ∃ d, fldD fs k = d := ⟨_, rfl⟩
      rw [ht] at hc0 HSZ HER
      rw [hd] at HY HYL HSZ HER
      have HT := Lib.hid ht
      have HDD := Lib.hid hd
      clear ht hd
      have RR := Lib.hid (Below.refl wr.heap.size wr)
      have HY0 := Lib.hid HY.out
      have RW0 := Lib.hid RW.out
      go_upto_region 6 with fail
      obtain ⟨x1, f_, ex1, ef_⟩ : ∃ x1 f_, x1 = wr.alloc (.cells #[.int .i64 t, .slice A' n' c'] 38) ∧ f_ = wr.heap.size := ⟨_, _, rfl, rfl⟩
      rw [← ex1, ← ef_]
      have hbx : Below wr.heap.size wr x1 := by rw [ex1]; exact below_alloc1 _ _ 
      have g_F : w.heap.size ≤ f_ := by rw [ef_]; exact hz_wr
      have v_F : wr.heap.size ≤ f_ := by rw [ef_]; exact RR.out.size
      have HY := Lib.hid (HY.out.stays hbx)
      have RR := Lib.hid (RR.out.trans (hbx.mono RR.out.size))
      have BF := Lib.hid (show Blk x1 f_ 38 #[.int .i64 t, .slice A' n' c'] by rw [ex1, ef_]; exact blk_new1_0 _ _ _ )
      have R2 := Lib.hid (RW.out.trans (hbx.mono hz_wr))
      have hz_x1 := R2.out.size
      clear hbx ex1 ef_ RW hz_wr
      have kF_0 : x1.cell? ⟨f_, 0, none⟩ = some (.int .i64 t) := BF.out.cell 0
      have kF_1 : x1.cell? ⟨f_, 1, none⟩ = some (.slice A' n' c') := BF.out.cell 1
      clear hc0 hc1
      go_wp2_with fail
      refine (sizeE_any t A' n' c' d _ HYL.out (by omega)).mono ?_
      rintro e y3 ⟨rfl, hb⟩
      clear kF_0 kF_1
      have hbx : Below x1.heap.size x1 y3 := below_via (by go_grown) hb (by first | (simp; done) | (simp; omega))
      have BF := Lib.hid (BF.out.stays hbx)
      have HY := Lib.hid (HY.out.stays hbx)
      have RR := Lib.hid (RR.out.trans (hbx.mono RR.out.size))
      have R4 := Lib.hid (R2.out.trans (hbx.mono hz_x1))
      have hz_y3 := R4.out.size
      clear hb hbx  R2 hz_x1
      rw [HSZ.out, HER.out]
      by_cases hne : ¬ er = 0
      ·
        have HN := Lib.hid (encX_err HE.out.1 hkl.out (by rw [HT.out, HDD.out]; exact HER.out) hne)
        have e1 : (er == 0) = false := by simpa using hne
        have e2 : (er != 0) = true := by simp [bne, e1]
        clear hne
        go_wp2
        go_returns
        exact ⟨none, 0, 0, by rw [← HR.out, HN.out]; rfl, by rw [← HR.out, HN.out]; exact Bytes.nil _ _ _ (by decide), R4.out⟩
      obtain rfl : er = 0 := by omega
      clear hne
      obtain ⟨n1, n2, n3, n4, n5, n6, n7⟩ := HE.out.next (sz := sz) hkl.out (by rw [HT.out, HDD.out]; first | done | exact HER.out) (by rw [HT.out, HDD.out]; first | done | exact HSZ.out)
      rw [HT.out] at n4 n5
      rw [HDD.out, HYL.out] at n1
      have N1 := Lib.hid n1
      have N6 := Lib.hid n6
      have N7 := Lib.hid n7
      clear n1 n6 n7
      cases lg with
      | true =>
        go_wp2
        go_roundw
        case rel => exact ⟨k + 1, mo, co, AO, true, by omega, by go_num, rfl, rfl, N6.out (by first | rfl | trivial), .inl rfl, R4.out, hco⟩
        case measure => simp [intOf]; omega
      | false =>
        have HOW : Hid (wr.ownsRow w.heap.size 5 1 (.slice AO mo co) mo (((fs.take k).flatMap encX).map byteV)) := HO.out.elim (fun h => by cases h) id
        have hmo : mo ≤ co := (own_rd HOW.out).2.1
        have hmt := HE.out.2.2 rfl
        have hmT : mo ≤ 1232 := by
          have h2 := HE.out.2.1
          have := of_decide_eq_false h2.symm
          omega
        clear hmt HO
        by_cases hbig : 1232 < mo + sz
        ·
          have q1 : (1232 : Int) < (mo : Int) + (sz : Int) := by omega
          go_wp2
          go_roundw
          case rel => exact ⟨k + 1, mo, co, AO, true, by omega, by go_num, rfl, rfl, (N7.out (by first | rfl | trivial)).1 hbig, .inl rfl, R4.out, hco⟩
          case measure => simp [intOf]; omega
        have q1 : ¬ (1232 : Int) < (mo : Int) + (sz : Int) := by omega
        have HSM := Lib.hid ((N7.out (by first | rfl | trivial)).2 (by omega))
        clear N7 N6 hbig
        have n9 : 4 + n' ≤ sz := by have h1 := exSz_ge n'; have h2 := N1.out; omega
        have hmk := fun W => make_cap sz (by omega) W
        have oF := BF.out.lt
        go_upto_region 12 with fail
        clear hmk
        obtain ⟨x9, gg, hx9, hgg⟩ : ∃ x9 gg, x9 = y3.alloc (.cells (madeCells #[.int .u8 0] sz) 5) ∧ gg = y3.heap.size := ⟨_, _, rfl, rfl⟩
        rw [← hx9, ← hgg]
        have hb9 : Below y3.heap.size y3 x9 := by rw [hx9]; exact below_alloc1 _ _
        have BG : Blk x9 gg 5 (rowB sz []) := by rw [hx9, hgg, ← rowB_zero]; exact Blk.new _ _ _
        have fg : f_ < gg := by rw [hgg]; exact oF
        have wg : wr.heap.size ≤ gg := by rw [hgg]; exact RR.out.size
        have RR := Lib.hid (RR.out.trans (hb9.mono RR.out.size))
        have HY := Lib.hid (HY.out.stays hb9)
        have BF := Lib.hid (BF.out.stays hb9)
        have R9 := Lib.hid (R4.out.trans (hb9.mono hz_y3))
        have hz_x9 := R9.out.size
        clear hx9 hgg
        have kf0 : x9.cell? ⟨f_, 0, none⟩ = some (.int .i64 t) := BF.out.cell 0
        have kf1 : x9.cell? ⟨f_, 1, none⟩ = some (.slice A' n' c') := BF.out.cell 1
        obtain ⟨tn, rfl⟩ := Int.eq_ofNat_of_zero_le n4
        have wt : IntKind.u64.wrap (tn : Int) = (tn : Int) := IntWalk.u64_in _ (by omega)
        have wz : IntKind.u64.wrap (sz : Int) = (sz : Int) := IntWalk.u64_in _ (by omega)
        have HFG := Lib.hid fg
        clear fg
        refine zBegin (Z := []) (S := fun w' => (w'.cell? ⟨f_, 0, none⟩ = some (.int .i64 (tn : Int)) ∧ w'.cell? ⟨f_, 1, none⟩ = some (.slice A' n' c'))) (by kernel_rfl) ?pz1 (⟨BF.out.drew.cell 0, BF.out.drew.cell 1⟩) (fun hPQ wd hbd hHeld => ?sz1)
        case pz1 => (repeat (with_reducible first | refine PQ.then ?_ | refine PQ.block ?_)); exact fun _ _ d _ _ h => by cases d <;> exact h
        case sz1 =>
          have BG := BG.stays hbd
          have HYd := HY.out.stays hbd
          have RRd := RR.out.trans (hbd.mono RR.out.size)
          have BFd := BF.out.stays hbd
          have Rd9 := R9.out.trans (hbd.mono hz_x9)
          clear hbd
          refine zVal (i := 0) (d := (some 36)) (v := ?_) rfl rfl (by kernel_rfl) (by kernel_rfl) (by kernel_rfl) (by kernel_rfl) hPQ (by rfl) (fun wq hSw => ?_) hHeld ?_
          rotate_left 1
          · obtain ⟨cS0, cS1⟩ := hSw; go_simp; try with_reducible rfl
          try simp only [Act.put, List.setIfInBounds_toArray, List.set_cons_zero, List.set_cons_succ]
          refine zVal (i := 1) (d := (some 37)) (v := ?_) rfl rfl (by kernel_rfl) (by kernel_rfl) (by kernel_rfl) (by kernel_rfl) hPQ (by rfl) (fun wq hSw => ?_) hHeld ?_
          rotate_left 1
          · obtain ⟨cS0, cS1⟩ := hSw; go_simp; try with_reducible rfl
          try simp only [Act.put, List.setIfInBounds_toArray, List.set_cons_zero, List.set_cons_succ]
          refine zVal (i := 2) (d := (some 38)) (v := ?_) rfl rfl (by kernel_rfl) (by kernel_rfl) (by kernel_rfl) (by kernel_rfl) hPQ (by rfl) (fun wq hSw => ?_) hHeld ?_
          rotate_left 1
          · obtain ⟨cS0, cS1⟩ := hSw; go_simp; try with_reducible rfl
          try simp only [Act.put, List.setIfInBounds_toArray, List.set_cons_zero, List.set_cons_succ]
          refine zVal (i := 3) (d := (some 39)) (v := ?_) rfl rfl (by kernel_rfl) (by kernel_rfl) (by kernel_rfl) (by kernel_rfl) hPQ (by rfl) (fun wq hSw => ?_) hHeld ?_
          rotate_left 1
          · obtain ⟨cS0, cS1⟩ := hSw; go_simp; try with_reducible rfl
          try simp only [Act.put, List.setIfInBounds_toArray, List.set_cons_zero, List.set_cons_succ]
          refine zVal (i := 6) (d := (some 42)) (v := ?_) rfl rfl (by kernel_rfl) (by kernel_rfl) (by kernel_rfl) (by kernel_rfl) hPQ (by rfl) (fun wq hSw => ?_) hHeld ?_
          rotate_left 1
          · obtain ⟨cS0, cS1⟩ := hSw; go_simp; try with_reducible rfl
          try simp only [Act.put, List.setIfInBounds_toArray, List.set_cons_zero, List.set_cons_succ]
          refine zVal (i := 7) (d := (some 43)) (v := ?_) rfl rfl (by kernel_rfl) (by kernel_rfl) (by kernel_rfl) (by kernel_rfl) hPQ (by rfl) (fun wq hSw => ?_) hHeld ?_
          rotate_left 1
          · obtain ⟨cS0, cS1⟩ := hSw; go_simp; try with_reducible rfl
          try simp only [Act.put, List.setIfInBounds_toArray, List.set_cons_zero, List.set_cons_succ]
          refine zVal (i := 10) (d := (some 46)) (v := ?_) rfl rfl (by kernel_rfl) (by kernel_rfl) (by kernel_rfl) (by kernel_rfl) hPQ (by rfl) (fun wq hSw => ?_) hHeld ?_
          rotate_left 1
          · obtain ⟨cS0, cS1⟩ := hSw; go_simp; try with_reducible rfl
          try simp only [Act.put, List.setIfInBounds_toArray, List.set_cons_zero, List.set_cons_succ]
          refine zVal (i := 11) (d := (some 47)) (v := ?_) rfl rfl (by kernel_rfl) (by kernel_rfl) (by kernel_rfl) (by kernel_rfl) hPQ (by rfl) (fun wq hSw => ?_) hHeld ?_
          rotate_left 1
          · obtain ⟨cS0, cS1⟩ := hSw; go_simp; try with_reducible rfl
          try simp only [Act.put, List.setIfInBounds_toArray, List.set_cons_zero, List.set_cons_succ]
          refine zAlone (j := 4) (by kernel_rfl) ?_
          refine zOpCall (j := 4) (d := (some 40)) (R := fun v w' => ∃ Ap cp, v = .slice Ap 2 cp ∧ Bytes w' Ap 2 cp (putL tn 2) ∧ Below wd.heap.size wd w') rfl rfl (by rfl) ?rz2 ((put_reads tn 2 (by decide) _).mono fun e q hq => by obtain ⟨Ap, cp, h1, h2, h3⟩ := hq; exact ⟨_, h1, Ap, cp, rfl, h2, h3⟩) (fun v u1 hRv => ?tz2)
          case rz2 => go_simp
          case tz2 =>
            obtain ⟨Ap, cp, rfl, hp, hb1⟩ := hRv
            refine ⟨.inr ⟨cell_stays hb1 hHeld.1, cell_stays hb1 hHeld.2⟩, ?_⟩
            try simp only [Act.put, List.setIfInBounds_toArray, List.set_cons_zero, List.set_cons_succ]
            have hHeld := And.intro (cell_stays hb1 hHeld.1) (cell_stays hb1 hHeld.2)
            have BG := BG.stays hb1
            have HYd := HYd.stays hb1
            have RRd := RRd.trans (hb1.mono RRd.size)
            have BFd := BFd.stays hb1
            clear hb1
            refine zAlone (j := 5) (by kernel_rfl) ?_
            refine zOpApp (j := 5) (d := (some 41)) (R := fun v w' => v = .slice (some ⟨gg, 0, none⟩) (2) sz ∧ Blk w' gg 5 (rowB sz (putL tn 2)) ∧ u1.grownBy w' (some gg)) rfl rfl (by rfl) rfl (by rfl) (by rfl) (room_ex BG (L := []) (by first | rfl | simp [putL_length]) hp (by omega) (r := 2) (by first | rfl | omega) _) (fun v u2 hRv => ?tz3)
            case tz3 =>
              obtain ⟨rfl, BG, hg2⟩ := hRv
              refine ⟨.inr ⟨((BFd.grown hg2 (by have := HFG.out; simp; omega)).cell 0), ((BFd.grown hg2 (by have := HFG.out; simp; omega)).cell 1)⟩, ?_⟩
              try simp only [Act.put, List.setIfInBounds_toArray, List.set_cons_zero, List.set_cons_succ]
              have BFd := BFd.grown hg2 (by have := HFG.out; simp; omega)
              have hHeld : _ ∧ _ := And.intro (BFd.cell 0) (BFd.cell 1)
              have hbk : Below wr.heap.size u1 u2 := (Below.refl _ _).grown hg2 RRd.size (fun q hq => by injection hq with hq; omega)
              have RRd := RRd.trans hbk
              have HYd : Bytes u2 A' n' c' d := HY0.out.stays RRd
              clear hbk
              refine zAlone (j := 8) (by kernel_rfl) ?_
              refine zOpCall (j := 8) (d := (some 44)) (R := fun v w' => ∃ Ap cp, v = .slice Ap 2 cp ∧ Bytes w' Ap 2 cp (putL sz 2) ∧ Below u2.heap.size u2 w') rfl rfl (by rfl) ?rz4 ((put_reads sz 2 (by decide) _).mono fun e q hq => by obtain ⟨Ap, cp, h1, h2, h3⟩ := hq; exact ⟨_, h1, Ap, cp, rfl, h2, h3⟩) (fun v u3 hRv => ?tz4)
              case rz4 => go_simp
              case tz4 =>
                obtain ⟨Ap, cp, rfl, hp, hb3⟩ := hRv
                refine ⟨.inr ⟨cell_stays hb3 hHeld.1, cell_stays hb3 hHeld.2⟩, ?_⟩
                try simp only [Act.put, List.setIfInBounds_toArray, List.set_cons_zero, List.set_cons_succ]
                have hHeld := And.intro (cell_stays hb3 hHeld.1) (cell_stays hb3 hHeld.2)
                have BG := BG.stays hb3
                have HYd := HYd.stays hb3
                have RRd := RRd.trans (hb3.mono RRd.size)
                have BFd := BFd.stays hb3
                clear hb3
                refine zAlone (j := 9) (by kernel_rfl) ?_
                refine zOpApp (j := 9) (d := (some 45)) (R := fun v w' => v = .slice (some ⟨gg, 0, none⟩) (4) sz ∧ Blk w' gg 5 (rowB sz (putL tn 2 ++ putL sz 2)) ∧ u3.grownBy w' (some gg)) rfl rfl (by rfl) rfl (by rfl) (by rfl) (room_ex BG (L := putL tn 2) (by first | rfl | simp [putL_length]) hp (by omega) (r := 4) (by first | rfl | omega) _) (fun v u4 hRv => ?tz5)
                case tz5 =>
                  obtain ⟨rfl, BG, hg4⟩ := hRv
                  refine ⟨.inr ⟨((BFd.grown hg4 (by have := HFG.out; simp; omega)).cell 0), ((BFd.grown hg4 (by have := HFG.out; simp; omega)).cell 1)⟩, ?_⟩
                  try simp only [Act.put, List.setIfInBounds_toArray, List.set_cons_zero, List.set_cons_succ]
                  have BFd := BFd.grown hg4 (by have := HFG.out; simp; omega)
                  have hHeld : _ ∧ _ := And.intro (BFd.cell 0) (BFd.cell 1)
                  have hbk : Below wr.heap.size u3 u4 := (Below.refl _ _).grown hg4 RRd.size (fun q hq => by injection hq with hq; omega)
                  have RRd := RRd.trans hbk
                  have HYd : Bytes u4 A' n' c' d := HY0.out.stays RRd
                  clear hbk
                  refine zAlone (j := 12) (by kernel_rfl) ?_
                  refine zOpApp (j := 12) (d := (some 48)) (R := fun v w' => v = .slice (some ⟨gg, 0, none⟩) (4 + n') sz ∧ Blk w' gg 5 (rowB sz (putL tn 2 ++ putL sz 2 ++ d)) ∧ u4.grownBy w' (some gg)) rfl rfl (by rfl) rfl (by rfl) (by rfl) (room_ex BG (L := putL tn 2 ++ putL sz 2) (by first | rfl | simp [putL_length]) HYd (by omega) (r := 4 + n') (by first | rfl | omega) _) (fun v u5 hRv => ?tz6)
                  case tz6 =>
                    obtain ⟨rfl, BG, hg5⟩ := hRv
                    refine ⟨.inr ⟨((BFd.grown hg5 (by have := HFG.out; simp; omega)).cell 0), ((BFd.grown hg5 (by have := HFG.out; simp; omega)).cell 1)⟩, ?_⟩
                    try simp only [Act.put, List.setIfInBounds_toArray, List.set_cons_zero, List.set_cons_succ]
                    have BFd := BFd.grown hg5 (by have := HFG.out; simp; omega)
                    have hHeld : _ ∧ _ := And.intro (BFd.cell 0) (BFd.cell 1)
                    have hbk : Below wr.heap.size u4 u5 := (Below.refl _ _).grown hg5 RRd.size (fun q hq => by injection hq with hq; omega)
                    have RRd := RRd.trans hbk
                    have HYd : Bytes u5 A' n' c' d := HY0.out.stays RRd
                    clear hbk
                    refine zVal (i := 13) (d := (some 10)) (v := ?_) rfl rfl (by kernel_rfl) (by kernel_rfl) (by kernel_rfl) (by kernel_rfl) hPQ (by rfl) (fun wq hSw => ?_) hHeld ?_
                    rotate_left 1
                    · obtain ⟨cS0, cS1⟩ := hSw; go_simp; try with_reducible rfl
                    try simp only [Act.put, List.setIfInBounds_toArray, List.set_cons_zero, List.set_cons_succ]
                    refine zDone (by kernel_rfl) ?_ _
                    have HB5 := Lib.hid BG
                    have HR5 := Lib.hid RRd
                    clear BG RRd BFd HYd hHeld hp kf0 kf1
                    have szc : sz ≤ sz := Nat.le_refl _
                    have HE5 : Hid (Bytes u5 (some ⟨gg, 0, none⟩) sz sz (encX ((tn : Int), d))) := by have := row_bytesN HB5.out (by simp only [List.length_append, putL_length, HYL.out]; have := exSz_ge n'; have := N1.out; omega) (Nat.le_refl _) (by unfold maxLen; omega); rw [enc_parts tn d n' sz HYL.out N1.out] at this; exact this
                    have HO5 := Lib.hid (own_below HOW.out HR5.out)
                    have R5 := Lib.hid (RW0.out.trans (HR5.out.mono RW0.out.size))
                    have hz_u5 := R5.out.size
                    go_wp2_with (at_builtin; refine wpList_append_rd rfl _ _ 23 rfl i0 (.int .u8 0) 1 Try.underlying23 hi hz0 hz1 hz2 rfl (by decide) rfl HO5.out rfl HE5.out (oneCell_bytes _) (by unfold maxLen; omega) (by omega) hz_u5 ?_; intro A8 c8 w8 hown8 hg8 hb8)
                    have R8 := R5.out.trans hb8
                    have hc8 : c8 ≤ 9223372036854775807 := by have := (own_rd hown8).2.2.1; unfold maxLen at this; omega
                    have HN8 : Hid (w8.ownsRow w.heap.size 5 1 (.slice A8 (mo + sz) c8) (mo + sz) (((fs.take (k + 1)).flatMap encX).map byteV)) := by
                      have e : (fs.take (k + 1)).flatMap encX = (fs.take k).flatMap encX ++ encX ((tn : Int), d) := by rw [take_fld fs k hkl.out, List.flatMap_append, HT.out, HDD.out]; simp
                      unfold Hid; rw [e, List.map_append]; exact hown8
                    clear hown8 hg8 hb8
                    go_wp2
                    go_roundw
                    case rel => exact ⟨k + 1, mo + sz, c8, A8, false, by omega, by go_num, rfl, (by first | rfl | rw [decide_eq_false (by omega)]), HSM, .inr HN8.out, R8, hc8⟩
                    case measure => simp [intOf]; omega
    · obtain rfl : k = n := by omega
      have HF := Lib.hid (HE.out.done HL.out)
      rw [HR.out] at HF
      by_cases h24 : 24 < k
      · have q1 : (24 : Int) < (k : Int) := by omega
        have HQ : Hid (R = ([], 8)) := by rw [Hid, HF.out, if_pos h24]
        go_wp2
        go_returns
        exact ⟨none, 0, 0, by rw [HQ.out]; rfl, by rw [HQ.out]; exact Bytes.nil _ _ _ (by decide), hbr⟩
      · have q1 : ¬ (24 : Int) < (k : Int) := by omega
        cases lg with
        | true =>
          have HQ : Hid (R = ([], 2)) := by rw [Hid, HF.out, if_neg h24, if_pos rfl]
          go_wp2
          go_returns
          exact ⟨none, 0, 0, by rw [HQ.out]; rfl, by rw [HQ.out]; exact Bytes.nil _ _ _ (by decide), hbr⟩
        | false =>
          have HQ : Hid (R = (fs.flatMap encX, 0)) := by rw [Hid, HF.out, if_neg h24, if_neg (by decide)]
          have HOW : Hid (wr.ownsRow w.heap.size 5 1 (.slice AO mo co) mo (((fs.take k).flatMap encX).map byteV)) := HO.out.elim (fun h => by cases h) id
          have HB : Hid (Bytes wr AO mo co (fs.flatMap encX)) := by have := own_rd HOW.out; rw [List.take_of_length_le (by rw [HL.out]; exact Nat.le_refl _)] at this; exact this
          go_wp2
          go_returns
          exact ⟨AO, mo, co, by rw [HQ.out]; rfl, by rw [HQ.out]; exact HB.out, hbr⟩
end Go.Proofs.Ytofadjcphaehcaa
