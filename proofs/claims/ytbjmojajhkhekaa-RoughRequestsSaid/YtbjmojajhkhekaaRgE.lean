/- Coarse-time messages: bytes.Clone, Find, Same. -/
import Derived.Test.YtbjmojajhkhekaaRgD
import Derived.Test.YtbjmojajhkhekaaSame
import Derived.Test.YtbjmojajhkhekaaRefJoin
namespace Go.Proofs.Ytbjmojajhkhekaa
open Go Go.RowKit

set_option maxRecDepth 100000 in
set_option maxHeartbeats 1000000 in
theorem bclone_any (A : Option Addr) (n c : Nat) (l : List UInt8) (w : World) (hv : Bytes w A n c l) (hn : n ≤ 1099511627776) :
    Calls Try.prog 55 #[.slice A n c] w fun e w' => ∃ A' c', e = .returned (.slice A' n c') ∧ w'.ownsRow w.heap.size 5 1 (.slice A' n c') n (l.map byteV) ∧ Below w.heap.size w w' := by
  obtain ⟨i0, hi, hz0, hz1, hz2⟩ := info_parts infoByteA
  have hcap := hv.cap
  have hle := hv.le
  cases A with
  | none =>
    have h0 : n = 0 := by
      rcases Nat.eq_zero_or_pos n with h | h
      · exact h
      · obtain ⟨b, off, e, _⟩ := hv.at_ h
        cases e
    subst h0
    have hl : l = [] := List.eq_nil_of_length_eq_zero hv.len
    subst hl
    have hq := fun (W : World) => Lib.run_eql_slice_nil (P := Try.prog) W 28 5 none 0 c 0 0 Try.underlying28
    go_enter Try.func55, Try.ntmps55
    go_wp2
    go_ret
    exact ⟨none, 0, rfl, own_nil _ _ _ _, Below.refl _ _⟩
  | some ad =>
    have HV := Lib.hid hv
    clear hv
    have hq := fun (W : World) => Lib.run_eql_slice_nil (P := Try.prog) W 28 5 (some ad) n c 0 0 Try.underlying28
    go_enter Try.func55, Try.ntmps55
    go_wp2_with (at_builtin; refine wpList_append_rd rfl _ _ 28 rfl i0 (.int .u8 0) 1 Try.underlying28 hi hz0 hz1 hz2 rfl (by decide) rfl (World.ownsRow_lit w #[] 0 (Nat.le_refl _) (by decide) rfl) rfl (HV.out.stays (by go_grown)) (oneCell_bytes _) ?c1 ?c2 ?c3 ?_)
    case c1 => unfold maxLen; omega
    case c2 => omega
    case c3 => simp
    intro A8 c8 w8 hown8 hg8 hb8
    have H8 := Lib.hid hown8
    have hb9 : Below w.heap.size w w8 := ((Below.refl _ _).alloc (Nat.le_refl _) _).trans hb8
    clear hown8
    go_wp2
    go_ret
    exact ⟨A8, c8, rfl, H8.out, hb9⟩


theorem str_ext28 {s t : ByteArray} (h : (s.toList == t.toList) = true) : s = t := by
  rw [beq_iff_eq, ByteArray.toList_eq, ByteArray.toList_eq, Array.toList_inj] at h
  cases s; cases t; simp at h; rw [h]
/-- What Find gives. -/
def fndT : Tags → ByteArray → List UInt8 × Bool
  | [], _ => ([], false)
  | x :: ts, nm => if (x.1.toList == nm.toList) = true then (x.2, true) else fndT ts nm
theorem fndT_at : ∀ (ts : Tags) (nm : ByteArray) (k : Nat), k < ts.length → (∀ j, j < k → ((tgN ts j).toList == nm.toList) = false) → ((tgN ts k).toList == nm.toList) = true → fndT ts nm = (tgD ts k, true)
  | x :: ts, nm, 0, _, _, h => by rw [fndT, if_pos (by simpa [tgN] using h)]; simp [tgD]
  | x :: ts, nm, k + 1, hk, hno, h => by
    have h0 := hno 0 (by omega)
    have e : fndT (x :: ts) nm = fndT ts nm := by rw [fndT, if_neg (by rw [show (x.1.toList == nm.toList) = false by simpa [tgN] using h0]; decide)]
    rw [e, fndT_at ts nm k (by simpa using hk) (fun j hj => by simpa [tgN] using hno (j + 1) (by omega)) (by simpa [tgN] using h)]
    simp [tgD]
theorem fndT_none : ∀ (ts : Tags) (nm : ByteArray), (∀ j, j < ts.length → ((tgN ts j).toList == nm.toList) = false) → fndT ts nm = ([], false)
  | [], _, _ => rfl
  | x :: ts, nm, hno => by
    have h0 := hno 0 (by simp)
    rw [fndT, if_neg (by rw [show (x.1.toList == nm.toList) = false by simpa [tgN] using h0]; decide), fndT_none ts nm (fun j hj => by simpa [tgN] using hno (j + 1) (by simpa using hj))]
set_option maxRecDepth 100000 in
set_option maxHeartbeats 4000000 in
theorem find_any28 (A : Option Addr) (n c : Nat) (ts : Tags) (nm : ByteArray) (w : World) (hv : TagL w A n c ts) (hf : ∀ k, (tgD ts k).length ≤ 100000) :
    Calls Try.prog 18 #[.slice A n c, .string nm] w fun e w' => ∃ A' m c', e = .returned (.tuple #[.slice A' m c', .bool (fndT ts nm).2]) ∧ Bytes w' A' m c' (fndT ts nm).1 ∧ Below w.heap.size w w' := by
  have hcap := hv.cap
  have hle0 := hv.le
  have HL := Lib.hid hv.len
  have HV := Lib.hid hv
  have HF := Lib.hid hf
  clear hv hf
  go_enter Try.func18, Try.ntmps18
  go_wp2_with fail
  go_loopw [10] (fun i wr => ∃ k : Nat, k ≤ n ∧ i = .int .i64 k ∧ Hid (∀ j, j < k → ((tgN ts j).toList == nm.toList) = false) ∧ Below w.heap.size w wr) (fun i _ => n - (intOf i).toNat)
  case atStart => exact ⟨0, Nat.zero_le _, rfl, (fun j hj => by omega), Below.refl _ _⟩
  case round =>
    obtain ⟨k, hk, rfl, HN, hbr⟩ := hrel
    have RW := Lib.hid hbr
    have hz_wr := hbr.size
    by_cases hkn : k < n
    ·
      have hki : (k : Int) < (n : Int) := by omega
      obtain ⟨bb, off, A', n', c', rfl, hc0, hc1, hy⟩ := (HV.out.stays hbr).at_ hkn
      have hyn : n' ≤ 100000 := by rw [← hy.len]; exact HF.out k
      have hnle := hy.le
      have hncap := hy.cap
      have HA := Lib.hid (fun h => fndT_at ts nm k (by rw [HL.out]; exact hkn) HN.out h)
      have HQ : Hid (((tgN ts k).toList == nm.toList) = false → ∀ j, j < k + 1 → ((tgN ts j).toList == nm.toList) = false) := fun h j hj => by
        by_cases e : j = k
        · rw [e]; exact h
        · exact HN.out j (by omega)
      obtain ⟨d, hd⟩ : ∃ d, tgD ts k = d := ⟨_, rfl⟩
      obtain ⟨x, hx⟩ : ∃ x, tgN ts k = x := ⟨_, rfl⟩
      rw [hd] at hy HA
      rw [hx] at hc0 HA HQ
      have HY := Lib.hid hy
      clear hbr hy hd hx
      go_upto_region 4 with fail
      obtain ⟨x1, t_, ex1, et_⟩ : ∃ x1 t_, x1 = wr.alloc (.cells #[.string x, .slice A' n' c'] 60) ∧ t_ = wr.heap.size := ⟨_, _, rfl, rfl⟩
      rw [← ex1, ← et_]
      have hbx : Below wr.heap.size wr x1 := by rw [ex1]; exact below_alloc1 _ _ 
      have g_T : w.heap.size ≤ t_ := by rw [et_]; exact hz_wr
      have HY := Lib.hid (HY.out.stays hbx)
      have BT := Lib.hid (show Blk x1 t_ 60 #[.string x, .slice A' n' c'] by rw [ex1, et_]; exact blk_new1_0 _ _ _ )
      have R2 := Lib.hid (RW.out.trans (hbx.mono hz_wr))
      have hz_x1 := R2.out.size
      clear hbx ex1 et_ RW hz_wr
      clear hc0 hc1
      have kT_0 : x1.cell? ⟨t_, 0, none⟩ = some (.string x) := BT.out.cell 0
      have kT_1 : x1.cell? ⟨t_, 1, none⟩ = some (.slice A' n' c') := BT.out.cell 1
      obtain ⟨q, hq⟩ : ∃ q, (x.toList == nm.toList) = q := ⟨_, rfl⟩
      cases q with
      | false =>
        have HQ2 := Lib.hid (HQ.out hq)
        go_wp2
        go_roundw
        case rel => exact ⟨k + 1, by omega, by go_num, HQ2.out, R2.out⟩
        case measure => simp [intOf]; omega
      | true =>
        have HA2 := Lib.hid (HA.out hq)
        go_wp2_with fail
        refine (bclone_any _ _ _ _ _ HY.out (by omega)).mono ?_
        rintro e y3 ⟨Aj, cj, rfl, hv, hb⟩
        clear kT_0 kT_1
        have hbx : Below x1.heap.size x1 y3 := below_via (by go_grown) hb (by first | (simp; done) | (simp; omega))
        have BT := Lib.hid (BT.out.stays hbx)
        have HY := Lib.hid (HY.out.stays hbx)
        have VJ := Lib.hid (own_rd hv)
        have R4 := Lib.hid (R2.out.trans (hbx.mono hz_x1))
        have hz_y3 := R4.out.size
        clear hb hbx  R2 hz_x1
        clear hv
        go_wp2
        go_returns
        exact ⟨Aj, n', cj, by rw [HA2.out]; rfl, by rw [HA2.out]; exact VJ.out, R4.out⟩
    obtain rfl : k = n := by omega
    have HA2 := Lib.hid (fndT_none ts nm (by rw [HL.out]; exact HN.out))
    go_wp2
    go_returns
    exact ⟨none, 0, 0, by rw [HA2.out]; rfl, by rw [HA2.out]; exact Rd.nil _ _ _ (by decide) _, RW.out⟩
set_option maxRecDepth 100000 in
set_option maxHeartbeats 4000000 in
theorem refFind_any28 (A : Option Addr) (n c : Nat) (ts : Tags) (nm : ByteArray) (w : World) (hv : TagL w A n c ts) (hf : ∀ k, (tgD ts k).length ≤ 100000) :
    Calls Try.prog 19 #[.slice A n c, .string nm] w fun e w' => ∃ A' m c', e = .returned (.tuple #[.slice A' m c', .bool (fndT ts nm).2]) ∧ Bytes w' A' m c' (fndT ts nm).1 ∧ Below w.heap.size w w' := by
  have hcap := hv.cap
  have hle0 := hv.le
  have HL := Lib.hid hv.len
  have HV := Lib.hid hv
  have HF := Lib.hid hf
  clear hv hf
  go_enter Try.func19, Try.ntmps19
  go_wp2_with fail
  go_loopw [6] (fun i wr => ∃ k : Nat, k ≤ n ∧ i = .int .i64 k ∧ Hid (∀ j, j < k → ((tgN ts j).toList == nm.toList) = false) ∧ Below w.heap.size w wr) (fun i _ => n - (intOf i).toNat)
  case atStart => exact ⟨0, Nat.zero_le _, rfl, (fun j hj => by omega), Below.refl _ _⟩
  case round =>
    obtain ⟨k, hk, rfl, HN, hbr⟩ := hrel
    have RW := Lib.hid hbr
    have hz_wr := hbr.size
    by_cases hkn : k < n
    ·
      have hki : (k : Int) < (n : Int) := by omega
      obtain ⟨bb, off, A', n', c', rfl, hc0, hc1, hy⟩ := (HV.out.stays hbr).at_ hkn
      have hyn : n' ≤ 100000 := by rw [← hy.len]; exact HF.out k
      have hnle := hy.le
      have hncap := hy.cap
      have HA := Lib.hid (fun h => fndT_at ts nm k (by rw [HL.out]; exact hkn) HN.out h)
      have HQ : Hid (((tgN ts k).toList == nm.toList) = false → ∀ j, j < k + 1 → ((tgN ts j).toList == nm.toList) = false) := fun h j hj => by
        by_cases e : j = k
        · rw [e]; exact h
        · exact HN.out j (by omega)
      obtain ⟨d, hd⟩ : ∃ d, tgD ts k = d := ⟨_, rfl⟩
      obtain ⟨x, hx⟩ : ∃ x, tgN ts k = x := ⟨_, rfl⟩
      rw [hd] at hy HA
      rw [hx] at hc0 HA HQ
      have HY := Lib.hid hy
      clear hbr hy hd hx
      obtain ⟨q, hq⟩ : ∃ q, (x.toList == nm.toList) = q := ⟨_, rfl⟩
      cases q with
      | false =>
        have HQ2 := Lib.hid (HQ.out hq)
        go_wp2
        go_roundw
        case rel => exact ⟨k + 1, by omega, by go_num, HQ2.out, RW.out⟩
        case measure => simp [intOf]; omega
      | true =>
        have HA2 := Lib.hid (HA.out hq)
        have HFL : Hid (([d] : List (List UInt8)).flatten.length = n') := by rw [Hid]; simpa using HY.out.len
        go_wp2_with fail
        refine (refJoin_any _ _ _ [_] _ (lists_made1 HY.out) _ HFL.out (by omega)).mono ?_
        rintro e y1 ⟨Aj, cj, rfl, hv, hb⟩
        have hbx : Below wr.heap.size wr y1 := below_via (by go_grown) hb (by first | (simp; done) | (simp; omega))
        have HY := Lib.hid (HY.out.stays hbx)
        have VJ := Lib.hid (own_rd hv)
        have R2 := Lib.hid (RW.out.trans (hbx.mono hz_wr))
        have hz_y1 := R2.out.size
        clear hb hbx  RW hz_wr
        clear hv
        go_wp2
        go_returns
        exact ⟨Aj, n', cj, by rw [HA2.out]; rfl, by rw [HA2.out]; have := VJ.out; unfold Bytes; simpa using this, R2.out⟩
    obtain rfl : k = n := by omega
    have HA2 := Lib.hid (fndT_none ts nm (by rw [HL.out]; exact HN.out))
    go_wp2
    go_returns
    exact ⟨none, 0, 0, by rw [HA2.out]; rfl, by rw [HA2.out]; exact Rd.nil _ _ _ (by decide) _, RW.out⟩
theorem refSame_trueD {A : Option Addr} {n c : Nat} {l : List UInt8} {A2 : Option Addr} {n2 c2 : Nat} {l2 : List UInt8} {w : World} (h1 : Bytes w A n c l) (h2 : Bytes w A2 n2 c2 l2) (e0 : l = l2) :
    Calls Try.prog 20 #[.slice A n c, .slice A2 n2 c2] w.drew fun e w' => e = .returned (.bool true) ∧ w' = w.drew :=
  (refSame_true (h1.stays ((Below.refl _ _).drew)) (h2.stays ((Below.refl _ _).drew)) e0).mono fun _ _ h => ⟨h.1, h.2.symm⟩
theorem refSame_falseD {A : Option Addr} {n c : Nat} {l : List UInt8} {A2 : Option Addr} {n2 c2 : Nat} {l2 : List UInt8} {w : World} (h1 : Bytes w A n c l) (h2 : Bytes w A2 n2 c2 l2) (e0 : ¬ l = l2) :
    Calls Try.prog 20 #[.slice A n c, .slice A2 n2 c2] w.drew fun e w' => e = .returned (.bool false) ∧ w' = w.drew :=
  (refSame_false (h1.stays ((Below.refl _ _).drew)) (h2.stays ((Below.refl _ _).drew)) e0).mono fun _ _ h => ⟨h.1, h.2.symm⟩
theorem tag_take (fs gs : List (ByteArray × List UInt8)) (k : Nat) (h1 : k < fs.length) (h2 : k < gs.length) (h : fs.take k = gs.take k) (ht : tgN fs k = tgN gs k) (hd : tgD fs k = tgD gs k) : fs.take (k + 1) = gs.take (k + 1) := by
  rw [List.take_succ_eq_append_getElem h1, List.take_succ_eq_append_getElem h2, h]
  congr 2
  have e1 : tgN fs k = (fs[k]).1 := by simp [tgN, h1, List.getD]
  have e2 : tgN gs k = (gs[k]).1 := by simp [tgN, h2, List.getD]
  have e3 : tgD fs k = (fs[k]).2 := by simp [tgD, h1, List.getD]
  have e4 : tgD gs k = (gs[k]).2 := by simp [tgD, h2, List.getD]
  exact Prod.ext (by rw [← e1, ← e2, ht]) (by rw [← e3, ← e4, hd])
set_option maxRecDepth 100000 in
set_option maxHeartbeats 4000000 in
theorem sameTags_any (A : Option Addr) (n c : Nat) (fs : List (ByteArray × List UInt8)) (A2 : Option Addr) (n2 c2 : Nat) (gs : List (ByteArray × List UInt8)) (w : World) (h1 : TagL w A n c fs) (h2 : TagL w A2 n2 c2 gs) :
    Calls Try.prog 34 #[.slice A n c, .slice A2 n2 c2] w fun e w' => e = .returned (.bool (decide (fs = gs))) ∧ Below w.heap.size w w' := by
  have q1 := h1.le
  have q2 := h1.cap
  have q3 := h2.le
  have q4 := h2.cap
  have L1 := Lib.hid h1.len
  have L2 := Lib.hid h2.len
  have F1 := Lib.hid h1
  have F2 := Lib.hid h2
  clear h1 h2
  by_cases hn : n = n2
  · subst hn
    go_enter Try.func34, Try.ntmps34
    go_wp2
    go_loopw [5] (fun i wr => ∃ k : Nat, k ≤ n ∧ i = .int .i64 k ∧ Hid (fs.take k = gs.take k) ∧ Below w.heap.size w wr) (fun i _ => n - (intOf i).toNat)
    case atStart => exact ⟨0, Nat.zero_le _, rfl, rfl, Below.refl _ _⟩
    case round =>
      obtain ⟨k, hk, rfl, HT, hbr⟩ := hrel
      by_cases hkn : k < n
      · have hki : (k : Int) < (n : Int) := by omega
        obtain ⟨b, off, A', n', c', rfl, hc0, hc1, hy⟩ := (F1.out.stays hbr).at_ hkn
        obtain ⟨b2, off2, A2', n2', c2', rfl, hc02, hc12, hy2⟩ := (F2.out.stays hbr).at_ hkn
        have HY := Lib.hid hy
        have HY2 := Lib.hid hy2
        clear hy hy2
        have HS := Lib.hid (tag_take fs gs k (by rw [L1.out]; exact hkn) (by rw [L2.out]; exact hkn) HT.out)
        have HNT : Hid (tgN fs k ≠ tgN gs k → fs ≠ gs) := fun h e => h (by rw [e])
        have HND : Hid (tgD fs k ≠ tgD gs k → fs ≠ gs) := fun h e => h (by rw [e])
        generalize tgN fs k = x at *
        generalize tgN gs k = y at *
        generalize tgD fs k = d1 at *
        generalize tgD gs k = d2 at *
        by_cases hxy : x = y
        · subst hxy
          by_cases hd : d1 = d2
          · have HD := Lib.hid hd
            clear hd
            go_wp2_with fail
            refine region_still (by kernel_rfl) (by kernel_rfl) ?_
            repeat ((with_reducible refine wpStill_step (fun K hK => ?_)); go_simp; (with_reducible refine hK _ ?_); clear hK K)
            with_reducible refine wpStill_step (fun K hK => ?_)
            go_simp
            with_reducible refine ⟨_, refSame_trueD HY.out HY2.out HD.out, hK _ ?_⟩
            clear hK K
            repeat ((with_reducible refine wpStill_step (fun K hK => ?_)); go_simp; (with_reducible refine hK _ ?_); clear hK K)
            refine wpStill_nil ?_
            go_wp2
            go_roundw
            case rel => exact ⟨k + 1, by omega, by go_num, HS.out (by first | rfl | trivial) HD.out, hbr.drew⟩
            case measure => simp [intOf]; omega
          · have HD := Lib.hid hd
            clear hd
            go_wp2_with fail
            refine region_still (by kernel_rfl) (by kernel_rfl) ?_
            repeat ((with_reducible refine wpStill_step (fun K hK => ?_)); go_simp; (with_reducible refine hK _ ?_); clear hK K)
            with_reducible refine wpStill_step (fun K hK => ?_)
            go_simp
            with_reducible refine ⟨_, refSame_falseD HY.out HY2.out HD.out, hK _ ?_⟩
            clear hK K
            repeat ((with_reducible refine wpStill_step (fun K hK => ?_)); go_simp; (with_reducible refine hK _ ?_); clear hK K)
            refine wpStill_nil ?_
            go_wp2
            go_ret
            exact ⟨by rw [decide_eq_false (HND.out HD.out)]; rfl, hbr.drew⟩
        · have hb : (x.toList == y.toList) = false := by
            cases q : (x.toList == y.toList)
            · rfl
            · exact absurd (str_ext28 q) hxy
          have HX := Lib.hid hxy
          clear hxy
          go_wp2_with fail
          refine region_still (by kernel_rfl) (by kernel_rfl) ?_
          repeat ((with_reducible refine wpStill_step (fun K hK => ?_)); go_simp; (with_reducible refine hK _ ?_); clear hK K)
          refine wpStill_nil ?_
          go_wp2
          go_ret
          exact ⟨by rw [decide_eq_false (HNT.out HX.out)]; rfl, hbr.drew⟩
      · obtain rfl : k = n := by omega
        have e := HT.out
        rw [List.take_of_length_le (by rw [L1.out]; exact Nat.le_refl _), List.take_of_length_le (by rw [L2.out]; exact Nat.le_refl _)] at e
        have E := Lib.hid e
        clear e
        go_wp2
        go_ret
        exact ⟨by rw [decide_eq_true E.out]; rfl, hbr⟩
  · have hni : ((n : Int) == (n2 : Int)) = false := by simp; omega
    have hni2 : ((n : Int) != (n2 : Int)) = true := by simp; omega
    have HN := Lib.hid hn
    clear hn
    go_enter Try.func34, Try.ntmps34
    go_wp2
    go_ret
    exact ⟨by rw [decide_eq_false (fun e => HN.out (by rw [← L1.out, ← L2.out, e]))]; rfl, Below.refl _ _⟩
end Go.Proofs.Ytbjmojajhkhekaa
