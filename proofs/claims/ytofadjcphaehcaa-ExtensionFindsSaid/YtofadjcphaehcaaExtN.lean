/- sectimeworld: Padded, AllPadded. -/
import Derived.Test.YtofadjcphaehcaaExtM
import Derived.Deep.LoopGhost
namespace Go.Proofs.Ytofadjcphaehcaa
open Go.RowKit

theorem padJ_lt {n j : Nat} (h : j < exSz n - (4 + n)) : (4 + (n + j)) % 4 ≠ 0 ∨ (4 + (n + j)) % 4 = 0 ∧ n + j < 12 := by unfold exSz at h; omega
theorem padJ_eq {n j : Nat} (h : j = exSz n - (4 + n)) : (4 + (n + j)) % 4 = 0 ∧ ¬ n + j < 12 := by unfold exSz at h; omega
theorem zero_snoc (d : List UInt8) (j : Nat) : (d ++ List.replicate j 0).map byteV ++ [byteV 0] = (d ++ List.replicate (j + 1) 0).map byteV := by
  simp [List.replicate_succ']
theorem own_put {w : World} {B n c ob T e i sz : Nat} {A : Option Addr} {vs : List Value} {cs : Array Value} (h : w.ownsRow B e sz (.slice A n c) n vs) (hB : Blk w ob T cs) (hne : e ≠ T) (v : Value) : (w.setCell ⟨ob, i, none⟩ v).ownsRow B e sz (.slice A n c) n vs :=
  h.kept (put_grown ob i v) (.inr (own_ne h hB hne))
set_option maxRecDepth 100000 in
set_option maxHeartbeats 4000000 in
theorem padded_any (t : Int) (A : Option Addr) (n c : Nat) (d : List UInt8) (w : World) (hb : Bytes w A n c d) (hn : n ≤ 1000000) :
    Calls Try.prog 73 #[.agg #[.int .i64 t, .slice A n c]] w fun e w' => ∃ A' m c', e = .returned (.agg #[.int .i64 t, .slice A' m c']) ∧ Bytes w' A' m c' (padX (t, d)).2 ∧ Fresh w.heap.size A' ∧ Below w.heap.size w w' := by
  obtain ⟨i0, hi, hz0, hz1, hz2⟩ := info_parts infoByteA
  have q1 := hb.le
  have q2 := hb.cap
  have HL := Lib.hid hb.len
  obtain ⟨J, hJ⟩ : ∃ J, exSz n - (4 + n) = J := ⟨_, rfl⟩
  have HJ := Lib.hid hJ
  have hJ2 : J ≤ 16 := by unfold exSz at hJ; omega
  have VD := Lib.hid hb
  have HFL : Hid (([d] : List (List UInt8)).flatten.length = n) := by rw [Hid]; simpa using hb.len
  clear hb hJ
  go_enter Try.func73, Try.ntmps73
  go_upto_region 1 with fail
  obtain ⟨x1, p_, r_, ex1, ep_, er_⟩ : ∃ x1 p_ r_, x1 = (w.alloc (.cells #[.int .i64 t, .slice A n c] 38)).alloc (.cells #[.int .i64 0, .slice none 0 0] 38) ∧ p_ = w.heap.size ∧ r_ = w.heap.size + 1 := ⟨_, _, _, rfl, rfl, rfl⟩
  rw [← ex1, ← er_, ← ep_]
  have hbx : Below w.heap.size w x1 := by rw [ex1]; exact below_alloc2 _ _ _ 
  have o_P_R : p_ < r_ := by omega
  have g_P : w.heap.size ≤ p_ := by rw [ep_]; exact Nat.le_refl _
  have VD := Lib.hid (VD.out.stays hbx)
  have BP := Lib.hid (show Blk x1 p_ 38 #[.int .i64 t, .slice A n c] by rw [ex1, ep_]; exact blk_new2_0 _ _ _ _ _ )
  have BR := Lib.hid (show Blk x1 r_ 38 #[.int .i64 0, .slice none 0 0] by rw [ex1, er_]; exact blk_new2_1 _ _ _ _ _ )
  have R2 := Lib.hid hbx
  have hz_x1 := R2.out.size
  clear hbx ex1 ep_ er_
  refine zBegin (Z := [8]) (S := fun w' => Below x1.heap.size x1 w') (by kernel_rfl) ?pz1 ((Below.refl x1.heap.size x1).drew) (fun hPQ wd hbd hHeld => ?sz1)
  case pz1 => (repeat (with_reducible first | refine PQ.then ?_ | refine PQ.block ?_)); exact fun _ _ d _ _ h => by cases d <;> exact h
  case sz1 =>
    clear hbd
    have hgr : w.heap.size ≤ r_ := by omega
    refine zVal (i := 0) (d := (some 4)) (v := ?_) rfl rfl (by kernel_rfl) (by kernel_rfl) (by kernel_rfl) (by kernel_rfl) hPQ (by rfl) (fun wq hSw => ?_) hHeld ?_
    rotate_left 1
    · have c0 := (BP.out.stays hSw).cell 0; have c1 := (BP.out.stays hSw).cell 1; go_simp; try with_reducible rfl
    try simp only [Act.put, List.setIfInBounds_toArray, List.set_cons_zero, List.set_cons_succ]
    refine zVal (i := 1) (d := (some 5)) (v := ?_) rfl rfl (by kernel_rfl) (by kernel_rfl) (by kernel_rfl) (by kernel_rfl) hPQ (by rfl) (fun wq hSw => ?_) hHeld ?_
    rotate_left 1
    · have c0 := (BP.out.stays hSw).cell 0; have c1 := (BP.out.stays hSw).cell 1; go_simp; try with_reducible rfl
    try simp only [Act.put, List.setIfInBounds_toArray, List.set_cons_zero, List.set_cons_succ]
    refine zVal (i := 2) (d := (some 6)) (v := ?_) rfl rfl (by kernel_rfl) (by kernel_rfl) (by kernel_rfl) (by kernel_rfl) hPQ (by rfl) (fun wq hSw => ?_) hHeld ?_
    rotate_left 1
    · have c0 := (BP.out.stays hSw).cell 0; have c1 := (BP.out.stays hSw).cell 1; go_simp; try with_reducible rfl
    try simp only [Act.put, List.setIfInBounds_toArray, List.set_cons_zero, List.set_cons_succ]
    refine zVal (i := 3) (d := (some 7)) (v := ?_) rfl rfl (by kernel_rfl) (by kernel_rfl) (by kernel_rfl) (by kernel_rfl) hPQ (by rfl) (fun wq hSw => ?_) hHeld ?_
    rotate_left 1
    · have c0 := (BP.out.stays hSw).cell 0; have c1 := (BP.out.stays hSw).cell 1; go_simp; try with_reducible rfl
    try simp only [Act.put, List.setIfInBounds_toArray, List.set_cons_zero, List.set_cons_succ]
    refine zAll (rs := [4, 7]) (by kernel_rfl) (by decide) (fun k hk => ?_)
    rcases zTwo hk with rfl | rfl
    ·
      refine zOpNew (j := 4) (d := (some 8)) (T := 23) (z := #[.slice A n c]) (val := fun g => .slice (some ⟨g, 0, none⟩) 1 1) rfl rfl (by rfl) ?rz2 (fun gl u1 gl_ge gl_lt BL hb1 => ⟨.inr (hHeld.trans (hb1.mono hHeld.size)), ?tz2⟩)
      case rz2 => go_simp; try with_reducible rfl
      case tz2 =>
        try simp only [Act.put, List.setIfInBounds_toArray, List.set_cons_zero, List.set_cons_succ]
        have hHeld := hHeld.trans (hb1.mono hHeld.size)
        refine zAll (rs := [5, 7]) (by kernel_rfl) (by decide) (fun k hk => ?_)
        rcases zTwo hk with rfl | rfl
        ·
          refine zOpCall (j := 5) (d := (some 9)) (R := fun v w' => ∃ Ap cp, v = .slice Ap n cp ∧ w'.ownsRow w.heap.size 5 1 (.slice Ap n cp) n (([d] : List (List UInt8)).flatten.map byteV) ∧ Below u1.heap.size u1 w') rfl rfl (by rfl) ?rz3 ((refJoin_any _ _ _ [_] _ (lists_blk1 BL (VD.out.stays hHeld)) _ HFL.out (by omega)).mono fun e q hq => by obtain ⟨Ap, cp, h1, h2, h3⟩ := hq; exact ⟨_, h1, Ap, cp, rfl, own_more (B' := w.heap.size) h2 (Nat.le_trans hz_x1 hHeld.size), h3⟩) (fun v u2 hRv => ?tz3)
          case rz3 => go_simp
          case tz3 =>
            obtain ⟨AD, cD, rfl, hD, hb2⟩ := hRv
            refine ⟨.inr (hHeld.trans (hb2.mono hHeld.size)), ?_⟩
            try simp only [Act.put, List.setIfInBounds_toArray, List.set_cons_zero, List.set_cons_succ]
            have hHeld := hHeld.trans (hb2.mono hHeld.size)
            refine zVal (i := 6) (d := (some 10)) (v := ?_) rfl rfl (by kernel_rfl) (by kernel_rfl) (by kernel_rfl) (by kernel_rfl) hPQ (by rfl) (fun wq hSw => ?_) hHeld ?_
            rotate_left 1
            · have c0 := (BP.out.stays hSw).cell 0; have c1 := (BP.out.stays hSw).cell 1; go_simp; try with_reducible rfl
            try simp only [Act.put, List.setIfInBounds_toArray, List.set_cons_zero, List.set_cons_succ]
            refine zAlone (j := 7) (by kernel_rfl) ?_
            refine zOpNew (j := 7) (d := (some 3)) (T := 38) (z := #[.int .i64 0, .slice none 0 0]) (val := fun g => .pointer (some ⟨g, 0, none⟩)) rfl rfl (by rfl) ?rz4 (fun go u3 go_ge go_lt BO hb3 => ⟨.inr (hHeld.trans (hb3.mono hHeld.size)), ?tz4⟩)
            case rz4 => go_simp; try with_reducible rfl
            case tz4 =>
              try simp only [Act.put, List.setIfInBounds_toArray, List.set_cons_zero, List.set_cons_succ]
              have hgo : x1.heap.size ≤ go := Nat.le_trans hHeld.size go_ge
              have hHeld := hHeld.trans (hb3.mono hHeld.size)
              have hD := own_below hD hb3
              have kO0 := BO.cell 0
              have kO1 := BO.cell 1
              have fO0 := BO.frozen 0
              have fO1 := BO.frozen 1
              refine zAlone (j := 8) (by kernel_rfl) ?_
              refine zOpStore (j := 8) (w2 := (u3.setCell ⟨go, 0, none⟩ (.int .i64 t)).setCell ⟨go, 1, none⟩ (.slice AD n cD)) rfl rfl (by rfl) ?rz5 ⟨.inl (by decide), ?tz5⟩
              case rz5 => go_simp; try with_reducible rfl
              case tz5 =>
                try simp only [Act.put, List.setIfInBounds_toArray, List.set_cons_zero, List.set_cons_succ]
                refine zDone (by kernel_rfl) ?_ _
                have D1 : Hid (Blk ((u3.setCell ⟨go, 0, none⟩ (.int .i64 t)).setCell ⟨go, 1, none⟩ (.slice AD n cD)) go 38 #[.int .i64 t, .slice AD n cD]) := (BO.put 0 (.int .i64 t)).put 1 (.slice AD n cD)
                have hgo2 : w.heap.size ≤ go := Nat.le_trans hz_x1 hgo
                have RD : Hid (Below w.heap.size w ((u3.setCell ⟨go, 0, none⟩ (.int .i64 t)).setCell ⟨go, 1, none⟩ (.slice AD n cD))) := ((R2.out.trans (hHeld.mono hz_x1)).setCell (p := ⟨go, 0, none⟩) hgo2 _).setCell (p := ⟨go, 1, none⟩) hgo2 _
                have HD : Hid (World.ownsRow ((u3.setCell ⟨go, 0, none⟩ (.int .i64 t)).setCell ⟨go, 1, none⟩ (.slice AD n cD)) w.heap.size 5 1 (.slice AD n cD) n (([d] : List (List UInt8)).flatten.map byteV)) := own_put (own_put hD BO (by decide) _) (BO.put 0 (.int .i64 t)) (by decide) _
                have VX : Hid (Bytes ((u3.setCell ⟨go, 0, none⟩ (.int .i64 t)).setCell ⟨go, 1, none⟩ (.slice AD n cD)) A n c d) := ((VD.out.stays hHeld).kept (put_grown go 0 _) ((VD.out.stays hHeld).ne_fld BO)).kept (put_grown go 1 _) (((VD.out.stays hHeld).kept (put_grown go 0 _) ((VD.out.stays hHeld).ne_fld BO)).ne_fld (show Blk _ go 38 #[.int .i64 t, .slice none 0 0] from BO.put 0 (.int .i64 t)))
                have BR2 : Hid (Blk ((u3.setCell ⟨go, 0, none⟩ (.int .i64 t)).setCell ⟨go, 1, none⟩ (.slice AD n cD)) r_ 38 #[.int .i64 0, .slice none 0 0]) := (((BR.out.stays hHeld).far (p := ⟨go, 0, none⟩) (by have := BR.out.lt; simp only []; omega) _).far (p := ⟨go, 1, none⟩) (by have := BR.out.lt; simp only []; omega) _)
                have hro : r_ < go := by have := BR.out.lt; omega
                clear hHeld kO0 kO1 fO0 fO1 BO hD BR VD
                generalize (u3.setCell ⟨go, 0, none⟩ (.int .i64 t)).setCell ⟨go, 1, none⟩ (.slice AD n cD) = wd2 at *
                go_wp2_with fail
                go_loopg [] J (fun gk wr => ∃ (j cj : Nat) (Aj : Option Addr), j + gk = J ∧ Hid (Blk wr go 38 #[.int .i64 t, .slice Aj (n + j) cj]) ∧ Hid (Blk wr r_ 38 #[.int .i64 0, .slice none 0 0]) ∧ Hid (wr.ownsRow w.heap.size 5 1 (.slice Aj (n + j) cj) (n + j) ((d ++ List.replicate j 0).map byteV)) ∧ Below w.heap.size w wr)
                case atStart => exact ⟨0, cD, AD, by omega, D1, BR2, by have := HD.out; rw [Hid]; simpa using this, RD.out⟩
                case round =>
                  obtain ⟨j, cj, Aj, hj, BO, BRr, HO, hbr⟩ := hrel
                  have RW := Lib.hid hbr
                  have hz_wr := hbr.size
                  have p1 := (own_rd HO.out).2.1
                  have p2 : cj ≤ 9223372036854775807 := by have := (own_rd HO.out).2.2.1; unfold maxLen at this; exact this
                  have kO0 := BO.out.cell 0
                  have kO1 := BO.out.cell 1
                  have fO0 := BO.out.frozen 0
                  have fO1 := BO.out.frozen 1
                  have lO := BO.out.lt
                  clear hbr
                  by_cases hjJ : j < J
                  ·
                    obtain ⟨g2, rfl⟩ : ∃ g2, gk = g2 + 1 := ⟨gk - 1, by omega⟩
                    have hc := padJ_lt (n := n) (j := j) (by rw [HJ.out]; exact hjJ)
                    have hcc : (4 + ((n + j : Nat) : Int)) % 4 = 0 ∧ ((n + j : Nat) : Int) < 12 ∨ ¬ (4 + ((n + j : Nat) : Int)) % 4 = 0 := by omega
                    have hm1 : n + j + 1 ≤ maxLen := by unfold maxLen; omega
                    have hm2 : n + j ≤ 1000016 := by omega
                    have HNE := Lib.hid (own_ne HO.out BO.out (by decide))
                    have HNR := Lib.hid (own_ne HO.out BRr.out (by decide))
                    obtain ⟨m, hm⟩ : ∃ m, n + j = m := ⟨_, rfl⟩
                    have HM := Lib.hid hm
                    rw [hm] at HO BO kO1 p1 hcc hm1 hm2 HNE HNR
                    clear hc hm
                    have ht1 : Hid (Int.tmod (4 + (m : Int)) 4 = (4 + (m : Int)) % 4) := by rw [Hid, Int.tmod_eq_emod_of_nonneg (by omega)]
                    obtain ⟨r, hr⟩ : ∃ r, (4 + (m : Int)) % 4 = r := ⟨_, rfl⟩
                    rw [hr] at ht1 hcc
                    have ht := ht1.out
                    clear hr
                    rcases hcc with ⟨hr0, h12⟩ | hr0
                    · subst hr0
                      go_wp2_with (at_builtin; refine wpList_append_rd rfl _ _ 23 rfl i0 (.int .u8 0) 1 Try.underlying23 hi hz0 hz1 hz2 rfl (by decide) rfl (own_alloc HO.out _) rfl (rd_one _ (byteV 0) _) (by intro u hu; simp at hu; subst hu; rfl) (by omega) (by omega) (by simp; omega) ?_; intro A8 c8 w8 hown8 hg8 hb8; have BO8 : Blk w8 go 38 #[.int .i64 t, .slice Aj m cj] := (BO.out.stays (Below.alloc (Below.refl wr.heap.size wr) (Nat.le_refl _) (.cells #[.int .u8 0] 5))).grown hg8 HNE.out.symm; have kO1 : w8.cell? ⟨go, 1, none⟩ = some (.slice Aj m cj) := BO8.cell 1; have fO1 : w8.frozen? ⟨go, 1, none⟩ = false := BO8.frozen 1; have lO := BO8.lt; have BR8 := Lib.hid ((BRr.out.stays (Below.alloc (Below.refl wr.heap.size wr) (Nat.le_refl _) (.cells #[.int .u8 0] 5))).grown hg8 HNR.out.symm); have BO8 := Lib.hid BO8; have HB8 := Lib.hid hb8; have HO8 := Lib.hid hown8; clear hb8 hown8 hg8)
                      have hb9 : Below w.heap.size w w8 := RW.out.trans (((Below.refl w.heap.size wr).alloc hz_wr _).trans HB8.out)
                      clear kO0 fO0
                      go_wp2
                      go_roundg g2
                      case measure => omega
                      case rel => exact ⟨j + 1, c8, A8, by omega, by have := BO8.out.put 1 (.slice A8 (m + 1) c8); rw [Hid, ← Nat.add_assoc, HM.out]; exact this, BR8.out.far (p := ⟨go, 1, none⟩) (by simp only []; omega) _, by have := own_put HO8.out BO8.out (by decide) (i := 1) (.slice A8 (m + 1) c8); rw [Hid, ← Nat.add_assoc, HM.out, ← zero_snoc]; exact this, hb9.setCell (p := ⟨go, 1, none⟩) hgo2 _⟩
                    ·
                      have hrb : (r != 0) = true := by simpa [bne] using hr0
                      go_wp2_with (at_builtin; refine wpList_append_rd rfl _ _ 23 rfl i0 (.int .u8 0) 1 Try.underlying23 hi hz0 hz1 hz2 rfl (by decide) rfl (own_alloc HO.out _) rfl (rd_one _ (byteV 0) _) (by intro u hu; simp at hu; subst hu; rfl) (by omega) (by omega) (by simp; omega) ?_; intro A8 c8 w8 hown8 hg8 hb8; have BO8 : Blk w8 go 38 #[.int .i64 t, .slice Aj m cj] := (BO.out.stays (Below.alloc (Below.refl wr.heap.size wr) (Nat.le_refl _) (.cells #[.int .u8 0] 5))).grown hg8 HNE.out.symm; have kO1 : w8.cell? ⟨go, 1, none⟩ = some (.slice Aj m cj) := BO8.cell 1; have fO1 : w8.frozen? ⟨go, 1, none⟩ = false := BO8.frozen 1; have lO := BO8.lt; have BR8 := Lib.hid ((BRr.out.stays (Below.alloc (Below.refl wr.heap.size wr) (Nat.le_refl _) (.cells #[.int .u8 0] 5))).grown hg8 HNR.out.symm); have BO8 := Lib.hid BO8; have HB8 := Lib.hid hb8; have HO8 := Lib.hid hown8; clear hb8 hown8 hg8)
                      have hb9 : Below w.heap.size w w8 := RW.out.trans (((Below.refl w.heap.size wr).alloc hz_wr _).trans HB8.out)
                      clear kO0 fO0
                      go_wp2
                      go_roundg g2
                      case measure => omega
                      case rel => exact ⟨j + 1, c8, A8, by omega, by have := BO8.out.put 1 (.slice A8 (m + 1) c8); rw [Hid, ← Nat.add_assoc, HM.out]; exact this, BR8.out.far (p := ⟨go, 1, none⟩) (by simp only []; omega) _, by have := own_put HO8.out BO8.out (by decide) (i := 1) (.slice A8 (m + 1) c8); rw [Hid, ← Nat.add_assoc, HM.out, ← zero_snoc]; exact this, hb9.setCell (p := ⟨go, 1, none⟩) hgo2 _⟩
                  · obtain rfl : j = J := by omega
                    have hc := padJ_eq (n := n) (j := j) HJ.out.symm
                    have h12 : ¬ ((n + j : Nat) : Int) < 12 := by omega
                    have ht : Int.tmod (4 + ((n + j : Nat) : Int)) 4 = 0 := by rw [Int.tmod_eq_emod_of_nonneg (by omega)]; omega
                    have HE := Lib.hid HJ.out
                    have hm2 : n + j ≤ 1000016 := by omega
                    obtain ⟨m, hm⟩ : ∃ m, n + j = m := ⟨_, rfl⟩
                    have HM := Lib.hid hm
                    rw [hm] at HO BO kO1 p1 h12 ht hm2
                    clear hc hm
                    have kR0 := BRr.out.cell 0
                    have kR1 := BRr.out.cell 1
                    have fR0 := BRr.out.frozen 0
                    have fR1 := BRr.out.frozen 1
                    have lR := BRr.out.lt
                    go_wp2_with fail
                    have D5 : Blk ((wr.setCell ⟨r_, 0, none⟩ (.int .i64 t)).setCell ⟨r_, 1, none⟩ (.slice Aj m cj)) r_ 38 #[.int .i64 t, .slice Aj m cj] := (BRr.out.put 0 (.int .i64 t)).put 1 (.slice Aj m cj)
                    have RD5 : Below w.heap.size w ((wr.setCell ⟨r_, 0, none⟩ (.int .i64 t)).setCell ⟨r_, 1, none⟩ (.slice Aj m cj)) := (RW.out.setCell (p := ⟨r_, 0, none⟩) hgr _).setCell (p := ⟨r_, 1, none⟩) hgr _
                    have HO5 := own_put (own_put HO.out BRr.out (by decide) (i := 0) (.int .i64 t)) (BRr.out.put 0 (.int .i64 t)) (by decide) (i := 1) (.slice Aj m cj)
                    have HP5 : (padX (t, d)).2 = d ++ List.replicate j 0 := by rw [padX, HL.out, HE]
                    generalize (wr.setCell ⟨r_, 0, none⟩ (.int .i64 t)).setCell ⟨r_, 1, none⟩ (.slice Aj m cj) = w5 at *
                    have d0 : w5.cell? ⟨r_, 0, none⟩ = some (.int .i64 t) := D5.cell 0
                    have d1 : w5.cell? ⟨r_, 1, none⟩ = some (.slice Aj m cj) := D5.cell 1
                    clear kR0 kR1 fR0 fR1
                    refine bodyPost_ret (v := .agg #[.int .i64 t, .slice Aj m cj]) (by simp [results, Try.results73, go_sem, *]) rfl ⟨Aj, m, cj, rfl, by rw [HP5]; exact own_rd HO5, Fresh.own HO5, RD5⟩
        ·
          refine zOpNew (j := 7) (d := (some 3)) (T := 38) (z := #[.int .i64 0, .slice none 0 0]) (val := fun g => .pointer (some ⟨g, 0, none⟩)) rfl rfl (by rfl) ?rz6 (fun go u4 go_ge go_lt BO hb4 => ⟨.inr (hHeld.trans (hb4.mono hHeld.size)), ?tz6⟩)
          case rz6 => go_simp; try with_reducible rfl
          case tz6 =>
            try simp only [Act.put, List.setIfInBounds_toArray, List.set_cons_zero, List.set_cons_succ]
            have hgo : x1.heap.size ≤ go := Nat.le_trans hHeld.size go_ge
            have hHeld := hHeld.trans (hb4.mono hHeld.size)
            have BL := BL.stays hb4
            refine zAlone (j := 5) (by kernel_rfl) ?_
            refine zOpCall (j := 5) (d := (some 9)) (R := fun v w' => ∃ Ap cp, v = .slice Ap n cp ∧ w'.ownsRow w.heap.size 5 1 (.slice Ap n cp) n (([d] : List (List UInt8)).flatten.map byteV) ∧ Below u4.heap.size u4 w') rfl rfl (by rfl) ?rz7 ((refJoin_any _ _ _ [_] _ (lists_blk1 BL (VD.out.stays hHeld)) _ HFL.out (by omega)).mono fun e q hq => by obtain ⟨Ap, cp, h1, h2, h3⟩ := hq; exact ⟨_, h1, Ap, cp, rfl, own_more (B' := w.heap.size) h2 (Nat.le_trans hz_x1 hHeld.size), h3⟩) (fun v u5 hRv => ?tz7)
            case rz7 => go_simp
            case tz7 =>
              obtain ⟨AD, cD, rfl, hD, hb5⟩ := hRv
              refine ⟨.inr (hHeld.trans (hb5.mono hHeld.size)), ?_⟩
              try simp only [Act.put, List.setIfInBounds_toArray, List.set_cons_zero, List.set_cons_succ]
              have hHeld := hHeld.trans (hb5.mono hHeld.size)
              have BO := BO.stays hb5
              refine zVal (i := 6) (d := (some 10)) (v := ?_) rfl rfl (by kernel_rfl) (by kernel_rfl) (by kernel_rfl) (by kernel_rfl) hPQ (by rfl) (fun wq hSw => ?_) hHeld ?_
              rotate_left 1
              · have c0 := (BP.out.stays hSw).cell 0; have c1 := (BP.out.stays hSw).cell 1; go_simp; try with_reducible rfl
              try simp only [Act.put, List.setIfInBounds_toArray, List.set_cons_zero, List.set_cons_succ]
              have kO0 := BO.cell 0
              have kO1 := BO.cell 1
              have fO0 := BO.frozen 0
              have fO1 := BO.frozen 1
              refine zAlone (j := 8) (by kernel_rfl) ?_
              refine zOpStore (j := 8) (w2 := (u5.setCell ⟨go, 0, none⟩ (.int .i64 t)).setCell ⟨go, 1, none⟩ (.slice AD n cD)) rfl rfl (by rfl) ?rz8 ⟨.inl (by decide), ?tz8⟩
              case rz8 => go_simp; try with_reducible rfl
              case tz8 =>
                try simp only [Act.put, List.setIfInBounds_toArray, List.set_cons_zero, List.set_cons_succ]
                refine zDone (by kernel_rfl) ?_ _
                have D1 : Hid (Blk ((u5.setCell ⟨go, 0, none⟩ (.int .i64 t)).setCell ⟨go, 1, none⟩ (.slice AD n cD)) go 38 #[.int .i64 t, .slice AD n cD]) := (BO.put 0 (.int .i64 t)).put 1 (.slice AD n cD)
                have hgo2 : w.heap.size ≤ go := Nat.le_trans hz_x1 hgo
                have RD : Hid (Below w.heap.size w ((u5.setCell ⟨go, 0, none⟩ (.int .i64 t)).setCell ⟨go, 1, none⟩ (.slice AD n cD))) := ((R2.out.trans (hHeld.mono hz_x1)).setCell (p := ⟨go, 0, none⟩) hgo2 _).setCell (p := ⟨go, 1, none⟩) hgo2 _
                have HD : Hid (World.ownsRow ((u5.setCell ⟨go, 0, none⟩ (.int .i64 t)).setCell ⟨go, 1, none⟩ (.slice AD n cD)) w.heap.size 5 1 (.slice AD n cD) n (([d] : List (List UInt8)).flatten.map byteV)) := own_put (own_put hD BO (by decide) _) (BO.put 0 (.int .i64 t)) (by decide) _
                have VX : Hid (Bytes ((u5.setCell ⟨go, 0, none⟩ (.int .i64 t)).setCell ⟨go, 1, none⟩ (.slice AD n cD)) A n c d) := ((VD.out.stays hHeld).kept (put_grown go 0 _) ((VD.out.stays hHeld).ne_fld BO)).kept (put_grown go 1 _) (((VD.out.stays hHeld).kept (put_grown go 0 _) ((VD.out.stays hHeld).ne_fld BO)).ne_fld (show Blk _ go 38 #[.int .i64 t, .slice none 0 0] from BO.put 0 (.int .i64 t)))
                have BR2 : Hid (Blk ((u5.setCell ⟨go, 0, none⟩ (.int .i64 t)).setCell ⟨go, 1, none⟩ (.slice AD n cD)) r_ 38 #[.int .i64 0, .slice none 0 0]) := (((BR.out.stays hHeld).far (p := ⟨go, 0, none⟩) (by have := BR.out.lt; simp only []; omega) _).far (p := ⟨go, 1, none⟩) (by have := BR.out.lt; simp only []; omega) _)
                have hro : r_ < go := by have := BR.out.lt; omega
                clear hHeld kO0 kO1 fO0 fO1 BO hD BR VD
                generalize (u5.setCell ⟨go, 0, none⟩ (.int .i64 t)).setCell ⟨go, 1, none⟩ (.slice AD n cD) = wd2 at *
                go_wp2_with fail
                go_loopg [] J (fun gk wr => ∃ (j cj : Nat) (Aj : Option Addr), j + gk = J ∧ Hid (Blk wr go 38 #[.int .i64 t, .slice Aj (n + j) cj]) ∧ Hid (Blk wr r_ 38 #[.int .i64 0, .slice none 0 0]) ∧ Hid (wr.ownsRow w.heap.size 5 1 (.slice Aj (n + j) cj) (n + j) ((d ++ List.replicate j 0).map byteV)) ∧ Below w.heap.size w wr)
                case atStart => exact ⟨0, cD, AD, by omega, D1, BR2, by have := HD.out; rw [Hid]; simpa using this, RD.out⟩
                case round =>
                  obtain ⟨j, cj, Aj, hj, BO, BRr, HO, hbr⟩ := hrel
                  have RW := Lib.hid hbr
                  have hz_wr := hbr.size
                  have p1 := (own_rd HO.out).2.1
                  have p2 : cj ≤ 9223372036854775807 := by have := (own_rd HO.out).2.2.1; unfold maxLen at this; exact this
                  have kO0 := BO.out.cell 0
                  have kO1 := BO.out.cell 1
                  have fO0 := BO.out.frozen 0
                  have fO1 := BO.out.frozen 1
                  have lO := BO.out.lt
                  clear hbr
                  by_cases hjJ : j < J
                  ·
                    obtain ⟨g2, rfl⟩ : ∃ g2, gk = g2 + 1 := ⟨gk - 1, by omega⟩
                    have hc := padJ_lt (n := n) (j := j) (by rw [HJ.out]; exact hjJ)
                    have hcc : (4 + ((n + j : Nat) : Int)) % 4 = 0 ∧ ((n + j : Nat) : Int) < 12 ∨ ¬ (4 + ((n + j : Nat) : Int)) % 4 = 0 := by omega
                    have hm1 : n + j + 1 ≤ maxLen := by unfold maxLen; omega
                    have hm2 : n + j ≤ 1000016 := by omega
                    have HNE := Lib.hid (own_ne HO.out BO.out (by decide))
                    have HNR := Lib.hid (own_ne HO.out BRr.out (by decide))
                    obtain ⟨m, hm⟩ : ∃ m, n + j = m := ⟨_, rfl⟩
                    have HM := Lib.hid hm
                    rw [hm] at HO BO kO1 p1 hcc hm1 hm2 HNE HNR
                    clear hc hm
                    have ht1 : Hid (Int.tmod (4 + (m : Int)) 4 = (4 + (m : Int)) % 4) := by rw [Hid, Int.tmod_eq_emod_of_nonneg (by omega)]
                    obtain ⟨r, hr⟩ : ∃ r, (4 + (m : Int)) % 4 = r := ⟨_, rfl⟩
                    rw [hr] at ht1 hcc
                    have ht := ht1.out
                    clear hr
                    rcases hcc with ⟨hr0, h12⟩ | hr0
                    · subst hr0
                      go_wp2_with (at_builtin; refine wpList_append_rd rfl _ _ 23 rfl i0 (.int .u8 0) 1 Try.underlying23 hi hz0 hz1 hz2 rfl (by decide) rfl (own_alloc HO.out _) rfl (rd_one _ (byteV 0) _) (by intro u hu; simp at hu; subst hu; rfl) (by omega) (by omega) (by simp; omega) ?_; intro A8 c8 w8 hown8 hg8 hb8; have BO8 : Blk w8 go 38 #[.int .i64 t, .slice Aj m cj] := (BO.out.stays (Below.alloc (Below.refl wr.heap.size wr) (Nat.le_refl _) (.cells #[.int .u8 0] 5))).grown hg8 HNE.out.symm; have kO1 : w8.cell? ⟨go, 1, none⟩ = some (.slice Aj m cj) := BO8.cell 1; have fO1 : w8.frozen? ⟨go, 1, none⟩ = false := BO8.frozen 1; have lO := BO8.lt; have BR8 := Lib.hid ((BRr.out.stays (Below.alloc (Below.refl wr.heap.size wr) (Nat.le_refl _) (.cells #[.int .u8 0] 5))).grown hg8 HNR.out.symm); have BO8 := Lib.hid BO8; have HB8 := Lib.hid hb8; have HO8 := Lib.hid hown8; clear hb8 hown8 hg8)
                      have hb9 : Below w.heap.size w w8 := RW.out.trans (((Below.refl w.heap.size wr).alloc hz_wr _).trans HB8.out)
                      clear kO0 fO0
                      go_wp2
                      go_roundg g2
                      case measure => omega
                      case rel => exact ⟨j + 1, c8, A8, by omega, by have := BO8.out.put 1 (.slice A8 (m + 1) c8); rw [Hid, ← Nat.add_assoc, HM.out]; exact this, BR8.out.far (p := ⟨go, 1, none⟩) (by simp only []; omega) _, by have := own_put HO8.out BO8.out (by decide) (i := 1) (.slice A8 (m + 1) c8); rw [Hid, ← Nat.add_assoc, HM.out, ← zero_snoc]; exact this, hb9.setCell (p := ⟨go, 1, none⟩) hgo2 _⟩
                    ·
                      have hrb : (r != 0) = true := by simpa [bne] using hr0
                      go_wp2_with (at_builtin; refine wpList_append_rd rfl _ _ 23 rfl i0 (.int .u8 0) 1 Try.underlying23 hi hz0 hz1 hz2 rfl (by decide) rfl (own_alloc HO.out _) rfl (rd_one _ (byteV 0) _) (by intro u hu; simp at hu; subst hu; rfl) (by omega) (by omega) (by simp; omega) ?_; intro A8 c8 w8 hown8 hg8 hb8; have BO8 : Blk w8 go 38 #[.int .i64 t, .slice Aj m cj] := (BO.out.stays (Below.alloc (Below.refl wr.heap.size wr) (Nat.le_refl _) (.cells #[.int .u8 0] 5))).grown hg8 HNE.out.symm; have kO1 : w8.cell? ⟨go, 1, none⟩ = some (.slice Aj m cj) := BO8.cell 1; have fO1 : w8.frozen? ⟨go, 1, none⟩ = false := BO8.frozen 1; have lO := BO8.lt; have BR8 := Lib.hid ((BRr.out.stays (Below.alloc (Below.refl wr.heap.size wr) (Nat.le_refl _) (.cells #[.int .u8 0] 5))).grown hg8 HNR.out.symm); have BO8 := Lib.hid BO8; have HB8 := Lib.hid hb8; have HO8 := Lib.hid hown8; clear hb8 hown8 hg8)
                      have hb9 : Below w.heap.size w w8 := RW.out.trans (((Below.refl w.heap.size wr).alloc hz_wr _).trans HB8.out)
                      clear kO0 fO0
                      go_wp2
                      go_roundg g2
                      case measure => omega
                      case rel => exact ⟨j + 1, c8, A8, by omega, by have := BO8.out.put 1 (.slice A8 (m + 1) c8); rw [Hid, ← Nat.add_assoc, HM.out]; exact this, BR8.out.far (p := ⟨go, 1, none⟩) (by simp only []; omega) _, by have := own_put HO8.out BO8.out (by decide) (i := 1) (.slice A8 (m + 1) c8); rw [Hid, ← Nat.add_assoc, HM.out, ← zero_snoc]; exact this, hb9.setCell (p := ⟨go, 1, none⟩) hgo2 _⟩
                  · obtain rfl : j = J := by omega
                    have hc := padJ_eq (n := n) (j := j) HJ.out.symm
                    have h12 : ¬ ((n + j : Nat) : Int) < 12 := by omega
                    have ht : Int.tmod (4 + ((n + j : Nat) : Int)) 4 = 0 := by rw [Int.tmod_eq_emod_of_nonneg (by omega)]; omega
                    have HE := Lib.hid HJ.out
                    have hm2 : n + j ≤ 1000016 := by omega
                    obtain ⟨m, hm⟩ : ∃ m, n + j = m := ⟨_, rfl⟩
                    have HM := Lib.hid hm
                    rw [hm] at HO BO kO1 p1 h12 ht hm2
                    clear hc hm
                    have kR0 := BRr.out.cell 0
                    have kR1 := BRr.out.cell 1
                    have fR0 := BRr.out.frozen 0
                    have fR1 := BRr.out.frozen 1
                    have lR := BRr.out.lt
                    go_wp2_with fail
                    have D5 : Blk ((wr.setCell ⟨r_, 0, none⟩ (.int .i64 t)).setCell ⟨r_, 1, none⟩ (.slice Aj m cj)) r_ 38 #[.int .i64 t, .slice Aj m cj] := (BRr.out.put 0 (.int .i64 t)).put 1 (.slice Aj m cj)
                    have RD5 : Below w.heap.size w ((wr.setCell ⟨r_, 0, none⟩ (.int .i64 t)).setCell ⟨r_, 1, none⟩ (.slice Aj m cj)) := (RW.out.setCell (p := ⟨r_, 0, none⟩) hgr _).setCell (p := ⟨r_, 1, none⟩) hgr _
                    have HO5 := own_put (own_put HO.out BRr.out (by decide) (i := 0) (.int .i64 t)) (BRr.out.put 0 (.int .i64 t)) (by decide) (i := 1) (.slice Aj m cj)
                    have HP5 : (padX (t, d)).2 = d ++ List.replicate j 0 := by rw [padX, HL.out, HE]
                    generalize (wr.setCell ⟨r_, 0, none⟩ (.int .i64 t)).setCell ⟨r_, 1, none⟩ (.slice Aj m cj) = w5 at *
                    have d0 : w5.cell? ⟨r_, 0, none⟩ = some (.int .i64 t) := D5.cell 0
                    have d1 : w5.cell? ⟨r_, 1, none⟩ = some (.slice Aj m cj) := D5.cell 1
                    clear kR0 kR1 fR0 fR1
                    refine bodyPost_ret (v := .agg #[.int .i64 t, .slice Aj m cj]) (by simp [results, Try.results73, go_sem, *]) rfl ⟨Aj, m, cj, rfl, by rw [HP5]; exact own_rd HO5, Fresh.own HO5, RD5⟩
    ·
      refine zOpNew (j := 7) (d := (some 3)) (T := 38) (z := #[.int .i64 0, .slice none 0 0]) (val := fun g => .pointer (some ⟨g, 0, none⟩)) rfl rfl (by rfl) ?rz9 (fun go u6 go_ge go_lt BO hb6 => ⟨.inr (hHeld.trans (hb6.mono hHeld.size)), ?tz9⟩)
      case rz9 => go_simp; try with_reducible rfl
      case tz9 =>
        try simp only [Act.put, List.setIfInBounds_toArray, List.set_cons_zero, List.set_cons_succ]
        have hgo : x1.heap.size ≤ go := Nat.le_trans hHeld.size go_ge
        have hHeld := hHeld.trans (hb6.mono hHeld.size)
        refine zAlone (j := 4) (by kernel_rfl) ?_
        refine zOpNew (j := 4) (d := (some 8)) (T := 23) (z := #[.slice A n c]) (val := fun g => .slice (some ⟨g, 0, none⟩) 1 1) rfl rfl (by rfl) ?rz10 (fun gl u7 gl_ge gl_lt BL hb7 => ⟨.inr (hHeld.trans (hb7.mono hHeld.size)), ?tz10⟩)
        case rz10 => go_simp; try with_reducible rfl
        case tz10 =>
          try simp only [Act.put, List.setIfInBounds_toArray, List.set_cons_zero, List.set_cons_succ]
          have hHeld := hHeld.trans (hb7.mono hHeld.size)
          have BO := BO.stays hb7
          refine zAlone (j := 5) (by kernel_rfl) ?_
          refine zOpCall (j := 5) (d := (some 9)) (R := fun v w' => ∃ Ap cp, v = .slice Ap n cp ∧ w'.ownsRow w.heap.size 5 1 (.slice Ap n cp) n (([d] : List (List UInt8)).flatten.map byteV) ∧ Below u7.heap.size u7 w') rfl rfl (by rfl) ?rz11 ((refJoin_any _ _ _ [_] _ (lists_blk1 BL (VD.out.stays hHeld)) _ HFL.out (by omega)).mono fun e q hq => by obtain ⟨Ap, cp, h1, h2, h3⟩ := hq; exact ⟨_, h1, Ap, cp, rfl, own_more (B' := w.heap.size) h2 (Nat.le_trans hz_x1 hHeld.size), h3⟩) (fun v u8 hRv => ?tz11)
          case rz11 => go_simp
          case tz11 =>
            obtain ⟨AD, cD, rfl, hD, hb8⟩ := hRv
            refine ⟨.inr (hHeld.trans (hb8.mono hHeld.size)), ?_⟩
            try simp only [Act.put, List.setIfInBounds_toArray, List.set_cons_zero, List.set_cons_succ]
            have hHeld := hHeld.trans (hb8.mono hHeld.size)
            have BO := BO.stays hb8
            refine zVal (i := 6) (d := (some 10)) (v := ?_) rfl rfl (by kernel_rfl) (by kernel_rfl) (by kernel_rfl) (by kernel_rfl) hPQ (by rfl) (fun wq hSw => ?_) hHeld ?_
            rotate_left 1
            · have c0 := (BP.out.stays hSw).cell 0; have c1 := (BP.out.stays hSw).cell 1; go_simp; try with_reducible rfl
            try simp only [Act.put, List.setIfInBounds_toArray, List.set_cons_zero, List.set_cons_succ]
            have kO0 := BO.cell 0
            have kO1 := BO.cell 1
            have fO0 := BO.frozen 0
            have fO1 := BO.frozen 1
            refine zAlone (j := 8) (by kernel_rfl) ?_
            refine zOpStore (j := 8) (w2 := (u8.setCell ⟨go, 0, none⟩ (.int .i64 t)).setCell ⟨go, 1, none⟩ (.slice AD n cD)) rfl rfl (by rfl) ?rz12 ⟨.inl (by decide), ?tz12⟩
            case rz12 => go_simp; try with_reducible rfl
            case tz12 =>
              try simp only [Act.put, List.setIfInBounds_toArray, List.set_cons_zero, List.set_cons_succ]
              refine zDone (by kernel_rfl) ?_ _
              have D1 : Hid (Blk ((u8.setCell ⟨go, 0, none⟩ (.int .i64 t)).setCell ⟨go, 1, none⟩ (.slice AD n cD)) go 38 #[.int .i64 t, .slice AD n cD]) := (BO.put 0 (.int .i64 t)).put 1 (.slice AD n cD)
              have hgo2 : w.heap.size ≤ go := Nat.le_trans hz_x1 hgo
              have RD : Hid (Below w.heap.size w ((u8.setCell ⟨go, 0, none⟩ (.int .i64 t)).setCell ⟨go, 1, none⟩ (.slice AD n cD))) := ((R2.out.trans (hHeld.mono hz_x1)).setCell (p := ⟨go, 0, none⟩) hgo2 _).setCell (p := ⟨go, 1, none⟩) hgo2 _
              have HD : Hid (World.ownsRow ((u8.setCell ⟨go, 0, none⟩ (.int .i64 t)).setCell ⟨go, 1, none⟩ (.slice AD n cD)) w.heap.size 5 1 (.slice AD n cD) n (([d] : List (List UInt8)).flatten.map byteV)) := own_put (own_put hD BO (by decide) _) (BO.put 0 (.int .i64 t)) (by decide) _
              have VX : Hid (Bytes ((u8.setCell ⟨go, 0, none⟩ (.int .i64 t)).setCell ⟨go, 1, none⟩ (.slice AD n cD)) A n c d) := ((VD.out.stays hHeld).kept (put_grown go 0 _) ((VD.out.stays hHeld).ne_fld BO)).kept (put_grown go 1 _) (((VD.out.stays hHeld).kept (put_grown go 0 _) ((VD.out.stays hHeld).ne_fld BO)).ne_fld (show Blk _ go 38 #[.int .i64 t, .slice none 0 0] from BO.put 0 (.int .i64 t)))
              have BR2 : Hid (Blk ((u8.setCell ⟨go, 0, none⟩ (.int .i64 t)).setCell ⟨go, 1, none⟩ (.slice AD n cD)) r_ 38 #[.int .i64 0, .slice none 0 0]) := (((BR.out.stays hHeld).far (p := ⟨go, 0, none⟩) (by have := BR.out.lt; simp only []; omega) _).far (p := ⟨go, 1, none⟩) (by have := BR.out.lt; simp only []; omega) _)
              have hro : r_ < go := by have := BR.out.lt; omega
              clear hHeld kO0 kO1 fO0 fO1 BO hD BR VD
              generalize (u8.setCell ⟨go, 0, none⟩ (.int .i64 t)).setCell ⟨go, 1, none⟩ (.slice AD n cD) = wd2 at *
              go_wp2_with fail
              go_loopg [] J (fun gk wr => ∃ (j cj : Nat) (Aj : Option Addr), j + gk = J ∧ Hid (Blk wr go 38 #[.int .i64 t, .slice Aj (n + j) cj]) ∧ Hid (Blk wr r_ 38 #[.int .i64 0, .slice none 0 0]) ∧ Hid (wr.ownsRow w.heap.size 5 1 (.slice Aj (n + j) cj) (n + j) ((d ++ List.replicate j 0).map byteV)) ∧ Below w.heap.size w wr)
              case atStart => exact ⟨0, cD, AD, by omega, D1, BR2, by have := HD.out; rw [Hid]; simpa using this, RD.out⟩
              case round =>
                obtain ⟨j, cj, Aj, hj, BO, BRr, HO, hbr⟩ := hrel
                have RW := Lib.hid hbr
                have hz_wr := hbr.size
                have p1 := (own_rd HO.out).2.1
                have p2 : cj ≤ 9223372036854775807 := by have := (own_rd HO.out).2.2.1; unfold maxLen at this; exact this
                have kO0 := BO.out.cell 0
                have kO1 := BO.out.cell 1
                have fO0 := BO.out.frozen 0
                have fO1 := BO.out.frozen 1
                have lO := BO.out.lt
                clear hbr
                by_cases hjJ : j < J
                ·
                  obtain ⟨g2, rfl⟩ : ∃ g2, gk = g2 + 1 := ⟨gk - 1, by omega⟩
                  have hc := padJ_lt (n := n) (j := j) (by rw [HJ.out]; exact hjJ)
                  have hcc : (4 + ((n + j : Nat) : Int)) % 4 = 0 ∧ ((n + j : Nat) : Int) < 12 ∨ ¬ (4 + ((n + j : Nat) : Int)) % 4 = 0 := by omega
                  have hm1 : n + j + 1 ≤ maxLen := by unfold maxLen; omega
                  have hm2 : n + j ≤ 1000016 := by omega
                  have HNE := Lib.hid (own_ne HO.out BO.out (by decide))
                  have HNR := Lib.hid (own_ne HO.out BRr.out (by decide))
                  obtain ⟨m, hm⟩ : ∃ m, n + j = m := ⟨_, rfl⟩
                  have HM := Lib.hid hm
                  rw [hm] at HO BO kO1 p1 hcc hm1 hm2 HNE HNR
                  clear hc hm
                  have ht1 : Hid (Int.tmod (4 + (m : Int)) 4 = (4 + (m : Int)) % 4) := by rw [Hid, Int.tmod_eq_emod_of_nonneg (by omega)]
                  obtain ⟨r, hr⟩ : ∃ r, (4 + (m : Int)) % 4 = r := ⟨_, rfl⟩
                  rw [hr] at ht1 hcc
                  have ht := ht1.out
                  clear hr
                  rcases hcc with ⟨hr0, h12⟩ | hr0
                  · subst hr0
                    go_wp2_with (at_builtin; refine wpList_append_rd rfl _ _ 23 rfl i0 (.int .u8 0) 1 Try.underlying23 hi hz0 hz1 hz2 rfl (by decide) rfl (own_alloc HO.out _) rfl (rd_one _ (byteV 0) _) (by intro u hu; simp at hu; subst hu; rfl) (by omega) (by omega) (by simp; omega) ?_; intro A8 c8 w8 hown8 hg8 hb8; have BO8 : Blk w8 go 38 #[.int .i64 t, .slice Aj m cj] := (BO.out.stays (Below.alloc (Below.refl wr.heap.size wr) (Nat.le_refl _) (.cells #[.int .u8 0] 5))).grown hg8 HNE.out.symm; have kO1 : w8.cell? ⟨go, 1, none⟩ = some (.slice Aj m cj) := BO8.cell 1; have fO1 : w8.frozen? ⟨go, 1, none⟩ = false := BO8.frozen 1; have lO := BO8.lt; have BR8 := Lib.hid ((BRr.out.stays (Below.alloc (Below.refl wr.heap.size wr) (Nat.le_refl _) (.cells #[.int .u8 0] 5))).grown hg8 HNR.out.symm); have BO8 := Lib.hid BO8; have HB8 := Lib.hid hb8; have HO8 := Lib.hid hown8; clear hb8 hown8 hg8)
                    have hb9 : Below w.heap.size w w8 := RW.out.trans (((Below.refl w.heap.size wr).alloc hz_wr _).trans HB8.out)
                    clear kO0 fO0
                    go_wp2
                    go_roundg g2
                    case measure => omega
                    case rel => exact ⟨j + 1, c8, A8, by omega, by have := BO8.out.put 1 (.slice A8 (m + 1) c8); rw [Hid, ← Nat.add_assoc, HM.out]; exact this, BR8.out.far (p := ⟨go, 1, none⟩) (by simp only []; omega) _, by have := own_put HO8.out BO8.out (by decide) (i := 1) (.slice A8 (m + 1) c8); rw [Hid, ← Nat.add_assoc, HM.out, ← zero_snoc]; exact this, hb9.setCell (p := ⟨go, 1, none⟩) hgo2 _⟩
                  ·
                    have hrb : (r != 0) = true := by simpa [bne] using hr0
                    go_wp2_with (at_builtin; refine wpList_append_rd rfl _ _ 23 rfl i0 (.int .u8 0) 1 Try.underlying23 hi hz0 hz1 hz2 rfl (by decide) rfl (own_alloc HO.out _) rfl (rd_one _ (byteV 0) _) (by intro u hu; simp at hu; subst hu; rfl) (by omega) (by omega) (by simp; omega) ?_; intro A8 c8 w8 hown8 hg8 hb8; have BO8 : Blk w8 go 38 #[.int .i64 t, .slice Aj m cj] := (BO.out.stays (Below.alloc (Below.refl wr.heap.size wr) (Nat.le_refl _) (.cells #[.int .u8 0] 5))).grown hg8 HNE.out.symm; have kO1 : w8.cell? ⟨go, 1, none⟩ = some (.slice Aj m cj) := BO8.cell 1; have fO1 : w8.frozen? ⟨go, 1, none⟩ = false := BO8.frozen 1; have lO := BO8.lt; have BR8 := Lib.hid ((BRr.out.stays (Below.alloc (Below.refl wr.heap.size wr) (Nat.le_refl _) (.cells #[.int .u8 0] 5))).grown hg8 HNR.out.symm); have BO8 := Lib.hid BO8; have HB8 := Lib.hid hb8; have HO8 := Lib.hid hown8; clear hb8 hown8 hg8)
                    have hb9 : Below w.heap.size w w8 := RW.out.trans (((Below.refl w.heap.size wr).alloc hz_wr _).trans HB8.out)
                    clear kO0 fO0
                    go_wp2
                    go_roundg g2
                    case measure => omega
                    case rel => exact ⟨j + 1, c8, A8, by omega, by have := BO8.out.put 1 (.slice A8 (m + 1) c8); rw [Hid, ← Nat.add_assoc, HM.out]; exact this, BR8.out.far (p := ⟨go, 1, none⟩) (by simp only []; omega) _, by have := own_put HO8.out BO8.out (by decide) (i := 1) (.slice A8 (m + 1) c8); rw [Hid, ← Nat.add_assoc, HM.out, ← zero_snoc]; exact this, hb9.setCell (p := ⟨go, 1, none⟩) hgo2 _⟩
                · obtain rfl : j = J := by omega
                  have hc := padJ_eq (n := n) (j := j) HJ.out.symm
                  have h12 : ¬ ((n + j : Nat) : Int) < 12 := by omega
                  have ht : Int.tmod (4 + ((n + j : Nat) : Int)) 4 = 0 := by rw [Int.tmod_eq_emod_of_nonneg (by omega)]; omega
                  have HE := Lib.hid HJ.out
                  have hm2 : n + j ≤ 1000016 := by omega
                  obtain ⟨m, hm⟩ : ∃ m, n + j = m := ⟨_, rfl⟩
                  have HM := Lib.hid hm
                  rw [hm] at HO BO kO1 p1 h12 ht hm2
                  clear hc hm
                  have kR0 := BRr.out.cell 0
                  have kR1 := BRr.out.cell 1
                  have fR0 := BRr.out.frozen 0
                  have fR1 := BRr.out.frozen 1
                  have lR := BRr.out.lt
                  go_wp2_with fail
                  have D5 : Blk ((wr.setCell ⟨r_, 0, none⟩ (.int .i64 t)).setCell ⟨r_, 1, none⟩ (.slice Aj m cj)) r_ 38 #[.int .i64 t, .slice Aj m cj] := (BRr.out.put 0 (.int .i64 t)).put 1 (.slice Aj m cj)
                  have RD5 : Below w.heap.size w ((wr.setCell ⟨r_, 0, none⟩ (.int .i64 t)).setCell ⟨r_, 1, none⟩ (.slice Aj m cj)) := (RW.out.setCell (p := ⟨r_, 0, none⟩) hgr _).setCell (p := ⟨r_, 1, none⟩) hgr _
                  have HO5 := own_put (own_put HO.out BRr.out (by decide) (i := 0) (.int .i64 t)) (BRr.out.put 0 (.int .i64 t)) (by decide) (i := 1) (.slice Aj m cj)
                  have HP5 : (padX (t, d)).2 = d ++ List.replicate j 0 := by rw [padX, HL.out, HE]
                  generalize (wr.setCell ⟨r_, 0, none⟩ (.int .i64 t)).setCell ⟨r_, 1, none⟩ (.slice Aj m cj) = w5 at *
                  have d0 : w5.cell? ⟨r_, 0, none⟩ = some (.int .i64 t) := D5.cell 0
                  have d1 : w5.cell? ⟨r_, 1, none⟩ = some (.slice Aj m cj) := D5.cell 1
                  clear kR0 kR1 fR0 fR1
                  refine bodyPost_ret (v := .agg #[.int .i64 t, .slice Aj m cj]) (by simp [results, Try.results73, go_sem, *]) rfl ⟨Aj, m, cj, rfl, by rw [HP5]; exact own_rd HO5, Fresh.own HO5, RD5⟩
end Go.Proofs.Ytofadjcphaehcaa
