/- rough.Encode. -/
import Derived.Test.YtbjmojajhkhekaaRgB
namespace Go.Proofs.Ytbjmojajhkhekaa
open Go Go.RowKit

set_option maxRecDepth 100000 in
set_option maxHeartbeats 4000000 in
theorem encode_any28 (A : Option Addr) (n c : Nat) (ts : Tags) (w : World) (hv : TagL w A n c ts) (hf : ∀ k, (tgD ts k).length ≤ 100000) :
    Calls Try.prog 16 #[.slice A n c] w fun e w' => ∃ A' m c', e = .returned (.tuple #[.slice A' m c', .int .i64 (encR ts).2]) ∧ Bytes w' A' m c' (encR ts).1 ∧ Below w.heap.size w w' := by
  have hcap := hv.cap
  have hle0 := hv.le
  have HL := Lib.hid hv.len
  have HV := Lib.hid hv
  have HF := Lib.hid hf
  clear hv hf
  by_cases hn0 : n < 1
  ·
    have q1 : (n : Int) < 1 := by omega
    have HE := Lib.hid (encR_limit HL.out (.inl hn0))
    go_enter Try.func16, Try.ntmps16
    go_wp2
    go_returns
    exact ⟨none, 0, 0, by rw [HE.out]; rfl, by rw [HE.out]; exact Rd.nil _ _ _ (by decide) _, Below.refl _ _⟩
  by_cases hn16 : 16 < n
  ·
    have q1 : ¬ (n : Int) < 1 := by omega
    have q2 : (16 : Int) < (n : Int) := by omega
    have HE := Lib.hid (encR_limit HL.out (.inr hn16))
    go_enter Try.func16, Try.ntmps16
    go_wp2
    go_returns
    exact ⟨none, 0, 0, by rw [HE.out]; rfl, by rw [HE.out]; exact Rd.nil _ _ _ (by decide) _, Below.refl _ _⟩
  have q1 : ¬ (n : Int) < 1 := by omega
  have q2 : ¬ (16 : Int) < (n : Int) := by omega
  have HDL := Lib.hid (fun k (hk : k ≤ 16) => show dl ts k ≤ 1600000 from Nat.le_trans (dl_le ts 100000 HF.out k) (by omega))
  go_enter Try.func16, Try.ntmps16
  obtain ⟨fe, hfe⟩ : ∃ fe, firstErr ts n = fe := ⟨_, rfl⟩
  have HFE := Lib.hid hfe
  clear hfe
  go_wp2_with fail
  refine (check_any28 _ _ _ _ _ HV.out).mono ?_
  rintro e y1 ⟨rfl, hb⟩
  have hbx : Below w.heap.size w y1 := below_via (by go_grown) hb (by first | (simp; done) | (simp; omega))
  have R2 := Lib.hid hbx
  have hz_y1 := R2.out.size
  clear hb hbx 
  rw [HFE.out]
  by_cases hz : fe = 0
  case neg =>
    have z1 : (fe == 0) = false := by simpa using hz
    have z2 : (fe != 0) = true := by simp [bne, z1]
    have HE := Lib.hid (encR_err HL.out (by omega) (by omega) HFE.out hz)
    go_wp2
    go_returns
    exact ⟨none, 0, 0, by rw [HE.out]; rfl, by rw [HE.out]; exact Rd.nil _ _ _ (by decide) _, R2.out⟩
  subst hz
  have HOK := Lib.hid (fun k (hk : k < n) => tagErr_0 (firstErr_ok ts n HFE.out k hk))
  have HX := Lib.hid (R2.out.size)
  go_wp2_with fail
  go_loopw [5, 6, 7, 26] (fun sp sn sd i wr => ∃ (k np nn nd cp cn cd : Nat) (Ap An Ad : Option Addr), k ≤ n ∧ i = .int .i64 k ∧ sp = .slice Ap np cp ∧ sn = .slice An nn cn ∧ sd = .slice Ad nd cd ∧ Hid (np = 4 * (k - 1) ∧ nn = 4 * k ∧ nd = dl ts k) ∧ Hid (Row3 wr y1.heap.size Ap np cp (plcT ts k) An nn cn (nmT ts k) Ad nd cd (daT ts k)) ∧ Below y1.heap.size y1 wr) (fun _ _ _ i _ => n - (intOf i).toNat)
  case atStart => exact ⟨0, 0, 0, 0, 0, 0, 0, none, none, none, Nat.zero_le _, rfl, rfl, rfl, rfl, ⟨rfl, rfl, rfl⟩, Row3.nil _ _, Below.refl _ _⟩
  case round =>
    obtain ⟨k, np, nn, nd, cp, cn, cd, Ap, An, Ad, hk, rfl, rfl, rfl, rfl, HQ, HO, hbr⟩ := hrel
    have RW := Lib.hid hbr
    have hz_wr := hbr.size
    have hnd : nd ≤ 1600000 := by rw [HQ.out.2.2]; exact HDL.out k (by omega)
    have hnp : np ≤ 1000 := by have := HQ.out.1; omega
    have hnn : nn ≤ 1000 := by have := HQ.out.2.1; omega
    have p1 := (own_rd HO.out.o1).2.1
    have p2 := (own_rd HO.out.o2).2.1
    have p3 := (own_rd HO.out.o3).2.1
    have r1 : cp ≤ 9223372036854775807 := by have := (own_rd HO.out.o1).2.2.1; unfold maxLen at this; exact this
    have r2 : cn ≤ 9223372036854775807 := by have := (own_rd HO.out.o2).2.2.1; unfold maxLen at this; exact this
    have r3 : cd ≤ 9223372036854775807 := by have := (own_rd HO.out.o3).2.2.1; unfold maxLen at this; exact this
    clear hbr
    by_cases hkn : k < n
    ·
      have hki : (k : Int) < (n : Int) := by omega
      obtain ⟨bb, off, A', n', c', rfl, hc0, hc1, hy⟩ := (HV.out.stays R2.out).at_ hkn
      have HOKk := Lib.hid (HOK.out k hkn)
      have HYL : Hid (dl ts (k + 1) = dl ts k + n') := by rw [Hid, dl, hy.len]
      have HNS : Hid ((tgN ts k).size = 4) := HOKk.out.1.1
      have HPK : Hid (0 < k → plcT ts (k + 1) = plcT ts k ++ putL (dl ts k) 4) := fun h => by rw [plcT, if_neg (by omega)]
      have HNK : Hid (nmT ts (k + 1) = nmT ts k ++ (tgN ts k).data.toList) := rfl
      have HDK : Hid (daT ts (k + 1) = daT ts k ++ tgD ts k) := rfl
      have hyn : n' ≤ 100000 := by rw [← hy.len]; exact HF.out k
      obtain ⟨nm, hnm⟩ : ∃ nm, tgN ts k = nm := ⟨_, rfl⟩
      obtain ⟨d, hd⟩ : ∃ d, tgD ts k = d := ⟨_, rfl⟩
      rw [hnm] at hc0 HNS HNK
      rw [hd] at hy HDK
      have HY := Lib.hid hy
      have hc0 := cell_stays RW.out hc0
      have hc1 := cell_stays RW.out hc1
      clear hy hnm hd HOKk
      have hs4 : nm.size = 4 := HNS.out
      go_upto_region 10 with fail
      obtain ⟨x3, t_, ex3, et_⟩ : ∃ x3 t_, x3 = wr.alloc (.cells #[.string nm, .slice A' n' c'] 60) ∧ t_ = wr.heap.size := ⟨_, _, rfl, rfl⟩
      rw [← ex3, ← et_]
      have hbx : Below wr.heap.size wr x3 := by rw [ex3]; exact below_alloc1 _ _ 
      have g_T : y1.heap.size ≤ t_ := by rw [et_]; exact hz_wr
      have HO := Lib.hid (HO.out.stays hbx)
      have BT := Lib.hid (show Blk x3 t_ 60 #[.string nm, .slice A' n' c'] by rw [ex3, et_]; exact blk_new1_0 _ _ _ )
      have R4 := Lib.hid (RW.out.trans (hbx.mono hz_wr))
      have hz_x3 := R4.out.size
      clear hbx ex3 et_ RW hz_wr
      clear hc0 hc1
      by_cases hk0 : 0 < k
      case neg =>
        have hk0i : ¬ (0 : Int) < (k : Int) := by omega
        have HP0 : Hid (plcT ts k = plcT ts (k + 1)) := by rw [show k = 0 by omega]; rfl
        go_upto_region 12 with fail
        refine zBegin (Z := []) (S := fun w' => Blk w' t_ 60 #[.string nm, .slice A' n' c']) (by kernel_rfl) ?pz1 (BT.out.stays (Below.refl x3.heap.size x3).drew) (fun hPQ wd hbd hHeld => ?sz1)
        case pz1 => (repeat (with_reducible first | refine PQ.then ?_ | refine PQ.block ?_)); exact fun _ _ d _ _ h => by cases d <;> exact h
        case sz1 =>
          have HO := HO.out.stays hbd
          have RB : Below y1.heap.size y1 wd := R4.out.trans (hbd.mono hz_x3)
          clear hbd
          refine zVal (i := 0) (d := (some 39)) (v := ?_) rfl rfl (by kernel_rfl) (by kernel_rfl) (by kernel_rfl) (by kernel_rfl) hPQ (by rfl) (fun wq hSw => ?_) hHeld ?_
          rotate_left 1
          · have c0 := hSw.cell 0; have c1 := hSw.cell 1; go_simp; try with_reducible rfl
          try simp only [Act.put, List.setIfInBounds_toArray, List.set_cons_zero, List.set_cons_succ]
          refine zVal (i := 1) (d := (some 40)) (v := ?_) rfl rfl (by kernel_rfl) (by kernel_rfl) (by kernel_rfl) (by kernel_rfl) hPQ (by rfl) (fun wq hSw => ?_) hHeld ?_
          rotate_left 1
          · have c0 := hSw.cell 0; have c1 := hSw.cell 1; go_simp; try with_reducible rfl
          try simp only [Act.put, List.setIfInBounds_toArray, List.set_cons_zero, List.set_cons_succ]
          refine zVal (i := 2) (d := (some 41)) (v := ?_) rfl rfl (by kernel_rfl) (by kernel_rfl) (by kernel_rfl) (by kernel_rfl) hPQ (by rfl) (fun wq hSw => ?_) hHeld ?_
          rotate_left 1
          · have c0 := hSw.cell 0; have c1 := hSw.cell 1; go_simp; try with_reducible rfl
          try simp only [Act.put, List.setIfInBounds_toArray, List.set_cons_zero, List.set_cons_succ]
          refine zVal (i := 4) (d := (some 43)) (v := ?_) rfl rfl (by kernel_rfl) (by kernel_rfl) (by kernel_rfl) (by kernel_rfl) hPQ (by rfl) (fun wq hSw => ?_) hHeld ?_
          rotate_left 1
          · have c0 := hSw.cell 0; have c1 := hSw.cell 1; go_simp; try with_reducible rfl
          try simp only [Act.put, List.setIfInBounds_toArray, List.set_cons_zero, List.set_cons_succ]
          refine zVal (i := 5) (d := (some 44)) (v := ?_) rfl rfl (by kernel_rfl) (by kernel_rfl) (by kernel_rfl) (by kernel_rfl) hPQ (by rfl) (fun wq hSw => ?_) hHeld ?_
          rotate_left 1
          · have c0 := hSw.cell 0; have c1 := hSw.cell 1; go_simp; try with_reducible rfl
          try simp only [Act.put, List.setIfInBounds_toArray, List.set_cons_zero, List.set_cons_succ]
          refine zVal (i := 6) (d := (some 45)) (v := ?_) rfl rfl (by kernel_rfl) (by kernel_rfl) (by kernel_rfl) (by kernel_rfl) hPQ (by rfl) (fun wq hSw => ?_) hHeld ?_
          rotate_left 1
          · have c0 := hSw.cell 0; have c1 := hSw.cell 1; go_simp; try with_reducible rfl
          try simp only [Act.put, List.setIfInBounds_toArray, List.set_cons_zero, List.set_cons_succ]
          refine zAlone (j := 3) (by kernel_rfl) ?_
          refine zOpAppT (j := 3) (d := (some 42)) (R := fun v w' => ∃ A2 c2, v = .slice A2 (nn + 4) c2 ∧ Row3 w' y1.heap.size Ap np cp (plcT ts k) A2 (nn + 4) c2 (nmT ts k ++ nm.data.toList) Ad nd cd (daT ts k) ∧ Keeps y1.heap.size wd w') rfl rfl (by rfl) rfl (by rfl) (by rfl) (by obtain ⟨A2, c2, w2, h1, h2, h3⟩ := HO.app2 nm (by omega) RB.size _; rw [hs4] at h1 h2; exact ⟨_, w2, h1, A2, c2, rfl, h2, h3⟩) (fun v v1 hRv => ?tz2)
          case tz2 =>
            obtain ⟨A2, c2, rfl, HO, hK⟩ := hRv
            refine ⟨.inr (hK.1 _ _ _ hHeld (by decide)), ?_⟩
            have hHeld := hK.1 _ _ _ hHeld (by decide)
            have RB := RB.trans hK.2
            clear hK
            try simp only [Act.put, List.setIfInBounds_toArray, List.set_cons_zero, List.set_cons_succ]
            refine zAlone (j := 7) (by kernel_rfl) ?_
            refine zOpAppT (j := 7) (d := (some 46)) (R := fun v w' => ∃ A3 c3, v = .slice A3 (nd + n') c3 ∧ Row3 w' y1.heap.size Ap np cp (plcT ts k) A2 (nn + 4) c2 (nmT ts k ++ nm.data.toList) A3 (nd + n') c3 (daT ts k ++ d) ∧ Keeps y1.heap.size v1 w') rfl rfl (by rfl) rfl (by rfl) (by rfl) (by obtain ⟨A3, c3, w2, h1, h2, h3⟩ := HO.app3 (HY.out.stays RB) (by omega) RB.size _; exact ⟨_, w2, h1, A3, c3, rfl, h2, h3⟩) (fun v v2 hRv => ?tz3)
            case tz3 =>
              obtain ⟨A3, c3, rfl, HO, hK⟩ := hRv
              refine ⟨.inr (hK.1 _ _ _ hHeld (by decide)), ?_⟩
              have hHeld := hK.1 _ _ _ hHeld (by decide)
              have RB := RB.trans hK.2
              clear hK
              try simp only [Act.put, List.setIfInBounds_toArray, List.set_cons_zero, List.set_cons_succ]
              refine zVal (i := 8) (d := (some 6)) (v := ?_) rfl rfl (by kernel_rfl) (by kernel_rfl) (by kernel_rfl) (by kernel_rfl) hPQ (by rfl) (fun wq hSw => ?_) hHeld ?_
              rotate_left 1
              · have c0 := hSw.cell 0; have c1 := hSw.cell 1; go_simp; try with_reducible rfl
              try simp only [Act.put, List.setIfInBounds_toArray, List.set_cons_zero, List.set_cons_succ]
              refine zVal (i := 9) (d := (some 7)) (v := ?_) rfl rfl (by kernel_rfl) (by kernel_rfl) (by kernel_rfl) (by kernel_rfl) hPQ (by rfl) (fun wq hSw => ?_) hHeld ?_
              rotate_left 1
              · have c0 := hSw.cell 0; have c1 := hSw.cell 1; go_simp; try with_reducible rfl
              try simp only [Act.put, List.setIfInBounds_toArray, List.set_cons_zero, List.set_cons_succ]
              refine zDone (by kernel_rfl) ?_ _
              clear hHeld
              have HO := Lib.hid HO
              have RB := Lib.hid RB
              go_wp2
              go_roundw
              case rel => exact ⟨k + 1, np, nn + 4, nd + n', cp, c2, c3, Ap, A2, A3, by omega, by go_num, rfl, rfl, rfl, ⟨by have := HQ.out.1; omega, by have := HQ.out.2.1; omega, by rw [HYL.out, ← HQ.out.2.2]⟩, by have := HO.out; rwa [HP0.out, ← HNK.out, ← HDK.out] at this, RB.out⟩
              case measure => simp [intOf]; omega
      have hk0i : (0 : Int) < (k : Int) := by omega
      go_wp2_with fail
      refine (put_reads nd 4 (by decide) _).mono ?_
      rintro e y5 ⟨Aq, cq, rfl, hq, hb⟩
      have hbx : Below x3.heap.size x3 y5 := below_via (by go_grown) hb (by first | (simp; done) | (simp; omega))
      have BT := Lib.hid (BT.out.stays hbx)
      have HO := Lib.hid (HO.out.stays hbx)
      have VQ := Lib.hid hq
      have R6 := Lib.hid (R4.out.trans (hbx.mono hz_x3))
      have hz_y5 := R6.out.size
      clear hb hbx hq R4 hz_x3
      go_wp2_with (at_builtin; refine wpList_append_h (vs := .slice Ap np cp) (vx := .slice Aq 4 cq) rfl _ _ 28 28 rfl rfl rfl (R := fun v w' => ∃ A1 c1, v = .slice A1 (np + 4) c1 ∧ Row3 w' y1.heap.size A1 (np + 4) c1 (plcT ts k ++ putL nd 4) An nn cn (nmT ts k) Ad nd cd (daT ts k) ∧ Keeps y1.heap.size y5 w') (by obtain ⟨A1, c1, w8, h1, h2, h3⟩ := HO.out.app1 VQ.out (by omega) hz_y5 _; exact ⟨_, w8, h1, A1, c1, rfl, h2, h3⟩) ?_; rintro v wk ⟨A1, c1, rfl, hO, hK⟩; have HOk := Lib.hid hO; have BTk := Lib.hid (hK.1 _ _ _ BT.out (by decide)); have RK := Lib.hid (R6.out.trans hK.2); clear hO hK)
      have HO := HOk
      have BT := BTk
      have hz_wk := RK.out.size
      clear HOk BTk VQ R6 hz_y5
      go_upto_region 12 with fail
      refine zBegin (Z := []) (S := fun w' => Blk w' t_ 60 #[.string nm, .slice A' n' c']) (by kernel_rfl) ?pz4 (BT.out.stays (Below.refl wk.heap.size wk).drew) (fun hPQ wd hbd hHeld => ?sz4)
      case pz4 => (repeat (with_reducible first | refine PQ.then ?_ | refine PQ.block ?_)); exact fun _ _ d _ _ h => by cases d <;> exact h
      case sz4 =>
        have HO := HO.out.stays hbd
        have RB : Below y1.heap.size y1 wd := RK.out.trans (hbd.mono hz_wk)
        clear hbd
        refine zVal (i := 0) (d := (some 39)) (v := ?_) rfl rfl (by kernel_rfl) (by kernel_rfl) (by kernel_rfl) (by kernel_rfl) hPQ (by rfl) (fun wq hSw => ?_) hHeld ?_
        rotate_left 1
        · have c0 := hSw.cell 0; have c1 := hSw.cell 1; go_simp; try with_reducible rfl
        try simp only [Act.put, List.setIfInBounds_toArray, List.set_cons_zero, List.set_cons_succ]
        refine zVal (i := 1) (d := (some 40)) (v := ?_) rfl rfl (by kernel_rfl) (by kernel_rfl) (by kernel_rfl) (by kernel_rfl) hPQ (by rfl) (fun wq hSw => ?_) hHeld ?_
        rotate_left 1
        · have c0 := hSw.cell 0; have c1 := hSw.cell 1; go_simp; try with_reducible rfl
        try simp only [Act.put, List.setIfInBounds_toArray, List.set_cons_zero, List.set_cons_succ]
        refine zVal (i := 2) (d := (some 41)) (v := ?_) rfl rfl (by kernel_rfl) (by kernel_rfl) (by kernel_rfl) (by kernel_rfl) hPQ (by rfl) (fun wq hSw => ?_) hHeld ?_
        rotate_left 1
        · have c0 := hSw.cell 0; have c1 := hSw.cell 1; go_simp; try with_reducible rfl
        try simp only [Act.put, List.setIfInBounds_toArray, List.set_cons_zero, List.set_cons_succ]
        refine zVal (i := 4) (d := (some 43)) (v := ?_) rfl rfl (by kernel_rfl) (by kernel_rfl) (by kernel_rfl) (by kernel_rfl) hPQ (by rfl) (fun wq hSw => ?_) hHeld ?_
        rotate_left 1
        · have c0 := hSw.cell 0; have c1 := hSw.cell 1; go_simp; try with_reducible rfl
        try simp only [Act.put, List.setIfInBounds_toArray, List.set_cons_zero, List.set_cons_succ]
        refine zVal (i := 5) (d := (some 44)) (v := ?_) rfl rfl (by kernel_rfl) (by kernel_rfl) (by kernel_rfl) (by kernel_rfl) hPQ (by rfl) (fun wq hSw => ?_) hHeld ?_
        rotate_left 1
        · have c0 := hSw.cell 0; have c1 := hSw.cell 1; go_simp; try with_reducible rfl
        try simp only [Act.put, List.setIfInBounds_toArray, List.set_cons_zero, List.set_cons_succ]
        refine zVal (i := 6) (d := (some 45)) (v := ?_) rfl rfl (by kernel_rfl) (by kernel_rfl) (by kernel_rfl) (by kernel_rfl) hPQ (by rfl) (fun wq hSw => ?_) hHeld ?_
        rotate_left 1
        · have c0 := hSw.cell 0; have c1 := hSw.cell 1; go_simp; try with_reducible rfl
        try simp only [Act.put, List.setIfInBounds_toArray, List.set_cons_zero, List.set_cons_succ]
        refine zAlone (j := 3) (by kernel_rfl) ?_
        refine zOpAppT (j := 3) (d := (some 42)) (R := fun v w' => ∃ A2 c2, v = .slice A2 (nn + 4) c2 ∧ Row3 w' y1.heap.size A1 (np + 4) c1 (plcT ts k ++ putL nd 4) A2 (nn + 4) c2 (nmT ts k ++ nm.data.toList) Ad nd cd (daT ts k) ∧ Keeps y1.heap.size wd w') rfl rfl (by rfl) rfl (by rfl) (by rfl) (by obtain ⟨A2, c2, w2, h1, h2, h3⟩ := HO.app2 nm (by omega) RB.size _; rw [hs4] at h1 h2; exact ⟨_, w2, h1, A2, c2, rfl, h2, h3⟩) (fun v v1 hRv => ?tz5)
        case tz5 =>
          obtain ⟨A2, c2, rfl, HO, hK⟩ := hRv
          refine ⟨.inr (hK.1 _ _ _ hHeld (by decide)), ?_⟩
          have hHeld := hK.1 _ _ _ hHeld (by decide)
          have RB := RB.trans hK.2
          clear hK
          try simp only [Act.put, List.setIfInBounds_toArray, List.set_cons_zero, List.set_cons_succ]
          refine zAlone (j := 7) (by kernel_rfl) ?_
          refine zOpAppT (j := 7) (d := (some 46)) (R := fun v w' => ∃ A3 c3, v = .slice A3 (nd + n') c3 ∧ Row3 w' y1.heap.size A1 (np + 4) c1 (plcT ts k ++ putL nd 4) A2 (nn + 4) c2 (nmT ts k ++ nm.data.toList) A3 (nd + n') c3 (daT ts k ++ d) ∧ Keeps y1.heap.size v1 w') rfl rfl (by rfl) rfl (by rfl) (by rfl) (by obtain ⟨A3, c3, w2, h1, h2, h3⟩ := HO.app3 (HY.out.stays RB) (by omega) RB.size _; exact ⟨_, w2, h1, A3, c3, rfl, h2, h3⟩) (fun v v2 hRv => ?tz6)
          case tz6 =>
            obtain ⟨A3, c3, rfl, HO, hK⟩ := hRv
            refine ⟨.inr (hK.1 _ _ _ hHeld (by decide)), ?_⟩
            have hHeld := hK.1 _ _ _ hHeld (by decide)
            have RB := RB.trans hK.2
            clear hK
            try simp only [Act.put, List.setIfInBounds_toArray, List.set_cons_zero, List.set_cons_succ]
            refine zVal (i := 8) (d := (some 6)) (v := ?_) rfl rfl (by kernel_rfl) (by kernel_rfl) (by kernel_rfl) (by kernel_rfl) hPQ (by rfl) (fun wq hSw => ?_) hHeld ?_
            rotate_left 1
            · have c0 := hSw.cell 0; have c1 := hSw.cell 1; go_simp; try with_reducible rfl
            try simp only [Act.put, List.setIfInBounds_toArray, List.set_cons_zero, List.set_cons_succ]
            refine zVal (i := 9) (d := (some 7)) (v := ?_) rfl rfl (by kernel_rfl) (by kernel_rfl) (by kernel_rfl) (by kernel_rfl) hPQ (by rfl) (fun wq hSw => ?_) hHeld ?_
            rotate_left 1
            · have c0 := hSw.cell 0; have c1 := hSw.cell 1; go_simp; try with_reducible rfl
            try simp only [Act.put, List.setIfInBounds_toArray, List.set_cons_zero, List.set_cons_succ]
            refine zDone (by kernel_rfl) ?_ _
            clear hHeld
            have HO := Lib.hid HO
            have RB := Lib.hid RB
            go_wp2
            go_roundw
            case rel => exact ⟨k + 1, np + 4, nn + 4, nd + n', c1, c2, c3, A1, A2, A3, by omega, by go_num, rfl, rfl, rfl, ⟨by have := HQ.out.1; omega, by have := HQ.out.2.1; omega, by rw [HYL.out, ← HQ.out.2.2]⟩, by have := HO.out; rwa [HQ.out.2.2, ← HPK.out hk0, ← HQ.out.2.2, ← HNK.out, ← HDK.out] at this, RB.out⟩
            case measure => simp [intOf]; omega
    obtain rfl : k = n := by omega
    have RW0 := Lib.hid (R2.out.trans (RW.out.mono HX.out))
    have hz_wr0 := RW0.out.size
    clear hkn
    have hnum : (0 : Int) ≤ (k : Int) := by omega
    go_wp2_with fail
    refine (put_reads k 4 (by decide) _).mono ?_
    rintro e y7 ⟨Aq, cq, rfl, hq, hb⟩
    have hbx : Below wr.heap.size wr y7 := below_via (by go_grown) hb (by first | (simp; done) | (simp; omega))
    have HO := Lib.hid (HO.out.stays hbx)
    have VQ := Lib.hid hq
    have R8 := Lib.hid (RW.out.trans (hbx.mono hz_wr))
    have hz_y7 := R8.out.size
    clear hb hbx hq RW hz_wr
    have HFL : Hid (([putL k 4, plcT ts k, nmT ts k, daT ts k] : List (List UInt8)).flatten.length = 4 + np + nn + nd) := by
      have h1 := (own_rd HO.out.o1).1
      have h2 := (own_rd HO.out.o2).1
      have h3 := (own_rd HO.out.o3).1
      rw [Hid]
      simp [putL_length] at h1 h2 h3 ⊢
      omega
    have VP := Lib.hid (own_rd HO.out.o1)
    have VN := Lib.hid (own_rd HO.out.o2)
    have VD := Lib.hid (own_rd HO.out.o3)
    obtain ⟨T, hT⟩ : ∃ T, 4 + np + nn + nd = T := ⟨_, rfl⟩
    have HT := Lib.hid hT
    rw [hT] at HFL
    have hT2 : T ≤ 2000000 := by omega
    clear hT
    go_wp2_with fail
    refine (concat_any _ _ _ [_, _, _, _] _ (lists_made4 VQ.out VP.out VN.out VD.out) _ HFL.out (by omega)).mono ?_
    rintro e y9 ⟨Ar, cr, rfl, h1, hb⟩
    have hbx : Below y7.heap.size y7 y9 := below_via (by go_grown) hb (by first | (simp; done) | (simp; omega))
    have HO := Lib.hid (HO.out.stays hbx)
    have VQ := Lib.hid (VQ.out.stays hbx)
    have VR := Lib.hid (own_rd h1)
    have R10 := Lib.hid (R8.out.trans (hbx.mono hz_y7))
    have hz_y9 := R10.out.size
    clear hb hbx  R8 hz_y7
    clear h1
    have htt : T = 8 * k + dl ts k := by have := HQ.out; have := HT.out; omega
    have HTT := Lib.hid htt
    clear htt
    by_cases h20 : 2048 < T
    ·
      have q3 : (2048 : Int) < (T : Int) := by omega
      have HE := Lib.hid (encR_long HL.out (by omega) (by omega) HFE.out (by rw [← HTT.out]; exact h20))
      go_wp2
      go_returns
      exact ⟨none, 0, 0, by rw [HE.out]; rfl, by rw [HE.out]; exact Rd.nil _ _ _ (by decide) _, R2.out.trans (R10.out.mono HX.out)⟩
    have q3 : ¬ (2048 : Int) < (T : Int) := by omega
    have HE := Lib.hid (encR_ok HL.out (by omega) (by omega) HFE.out (by rw [← HTT.out]; exact h20))
    go_wp2
    go_returns
    exact ⟨Ar, T, cr, by rw [HE.out]; rfl, by rw [HE.out]; have := VR.out; unfold Bytes; simpa using this, R2.out.trans (R10.out.mono HX.out)⟩
end Go.Proofs.Ytbjmojajhkhekaa
