/- The reference's Decode of coarse-time messages. -/
import Derived.Test.YtbjmojajhkhekaaRgG
namespace Go.Proofs.Ytbjmojajhkhekaa
open Go Go.RowKit

theorem numT_0 (b : List UInt8) : be64 (b.take 4) 4 = numT b 0 := by simp [numT]
theorem dt_mod {b : List UInt8} {n S k : Nat} (h : okP b S n) (hS : S % 4 = 0) (hk : k < n) (hl : b.length = 8 * n + S) : (tgD (tagsB b n S n) k).length % 4 = 0 := by
  rw [tagsB_D b hk, dtB_len h hS hk hl]
  have := atB_le h hS hk
  omega
theorem lists_blk1h {w : World} {g T : Nat} {A1 : Option Addr} {n1 c1 : Nat} {l1 : List UInt8} (hB : Blk w g T #[.slice A1 n1 c1]) (h1 : Bytes w A1 n1 c1 l1) : Lists w (some ⟨g, 0, none⟩) 1 1 [l1] := by
  refine ⟨[.slice A1 n1 c1], ⟨rfl, Nat.le_refl _, by decide, fun i u hu => ⟨g, 0, rfl, by rw [Nat.zero_add, hB.cell i]; simpa using hu⟩⟩, rfl, fun i l hl => ?_⟩
  match i, hl with
  | 0, hl => simp at hl; subst hl; exact ⟨A1, n1, c1, rfl, h1⟩
set_option maxRecDepth 100000 in
set_option maxHeartbeats 4000000 in
theorem refDecode_any28 (A : Option Addr) (m c : Nat) (b : List UInt8) (w : World) (hb : Bytes w A m c b) :
    Calls Try.prog 37 #[.slice A m c] w fun e w' => ∃ A' m' c', e = .returned (.tuple #[.slice A' m' c', .int .i64 (decR b).2]) ∧ TagL w' A' m' c' (decR b).1 ∧ Below w.heap.size w w' := by
  have hle := hb.le
  have hcap := hb.cap
  have HL := Lib.hid hb.len
  have HB := Lib.hid hb
  clear hb
  by_cases h20 : 2048 < m
  ·
    have q1 : (2048 : Int) < (m : Int) := by omega
    have HE := Lib.hid (decR_long HL.out h20)
    go_enter Try.func37, Try.ntmps37
    go_wp2
    go_returns
    exact ⟨none, 0, 0, by rw [HE.out]; rfl, by rw [HE.out]; exact TagL.nil _, Below.refl _ _⟩
  have q1 : ¬ (2048 : Int) < (m : Int) := by omega
  by_cases h4 : m < 4
  ·
    have q2 : (m : Int) < 4 := by omega
    have HE := Lib.hid (decR_short HL.out (by omega) h4)
    go_enter Try.func37, Try.ntmps37
    go_wp2
    go_returns
    exact ⟨none, 0, 0, by rw [HE.out]; rfl, by rw [HE.out]; exact TagL.nil _, Below.refl _ _⟩
  have q2 : ¬ (m : Int) < 4 := by omega
  have q2c : (4 : Int) ≤ (c : Int) := by omega
  have V4 := Lib.hid (HB.out.cutTo 4 (by omega))
  have HN0 := Lib.hid (numT_0 b)
  go_enter Try.func37, Try.ntmps37
  go_wp2_with fail
  refine (refGet_any _ _ _ _ _ V4.out).mono ?_
  rintro e q_ ⟨rfl, rfl⟩
  rw [HN0.out]
  have hn32 := numT_lt b 0
  obtain ⟨n, hn⟩ : ∃ n, numT b 0 = n := ⟨_, rfl⟩
  have HN := Lib.hid hn
  rw [hn] at hn32 ⊢
  clear hn V4
  by_cases hn1 : n < 1
  ·
    have q3 : (n : Int) < 1 := by omega
    have HE := Lib.hid (decR_limit HL.out (by omega) (by omega) HN.out (.inl hn1))
    go_wp2
    go_returns
    exact ⟨none, 0, 0, by rw [HE.out]; rfl, by rw [HE.out]; exact TagL.nil _, Below.refl _ _⟩
  have q3 : ¬ (n : Int) < 1 := by omega
  by_cases hn16 : 16 < n
  ·
    have q4 : (16 : Int) < (n : Int) := by omega
    have HE := Lib.hid (decR_limit HL.out (by omega) (by omega) HN.out (.inr hn16))
    go_wp2
    go_returns
    exact ⟨none, 0, 0, by rw [HE.out]; rfl, by rw [HE.out]; exact TagL.nil _, Below.refl _ _⟩
  have q4 : ¬ (16 : Int) < (n : Int) := by omega
  obtain ⟨q, hq⟩ : ∃ q, 8 * n = q := ⟨_, rfl⟩
  have hqi : (8 : Int) * (n : Int) = (q : Int) := by omega
  have HQ := Lib.hid hq
  by_cases hs2 : m < q
  ·
    have q5 : (m : Int) < (q : Int) := by omega
    have HE := Lib.hid (decR_short2 HL.out (by omega) (by omega) HN.out (by omega) (by omega) (by omega))
    clear hq
    go_wp2
    go_returns
    exact ⟨none, 0, 0, by rw [HE.out]; rfl, by rw [HE.out]; exact TagL.nil _, Below.refl _ _⟩
  have q5 : ¬ (m : Int) < (q : Int) := by omega
  obtain ⟨S, hS⟩ : ∃ S, m - q = S := ⟨_, rfl⟩
  have HS : Hid (m = 8 * n + S) := by rw [Hid]; omega
  have hS9 : S ≤ 2048 := by omega
  have hq8 : q ≤ 128 := by omega
  obtain ⟨cd, hcd⟩ : ∃ cd, c - q = cd := ⟨_, rfl⟩
  have HCD := Lib.hid hcd
  have VD := Lib.hid (HB.out.cutFrom q (by omega) (d := S) (k := cd) hS hcd)
  have s1 := run_cutFrom und_bytes size_byte (A := A) (n := m) (c := c) (q : Int) q S cd rfl (by omega) hS hcd
  clear hq hS hcd
  have hown : IntsO (w.alloc (.cells #[.int .i64 0] 3)) w.heap.size (some ⟨w.heap.size, 0, none⟩) 1 1 (plsB b 1) := World.ownsRow_lit (base := w.heap.size) (e := 3) (size := 1) w #[.int .i64 0] 1 (Nat.le_refl _) (by decide) rfl
  have HO := Lib.hid hown
  clear hown
  go_wp2_with fail
  go_loopw [7, 8] (fun so i wr => ∃ (j co : Nat) (AO : Option Addr), j + 1 ≤ n ∧ i = .int .i64 j ∧ so = .slice AO (j + 1) co ∧ Hid (okP b S (j + 1)) ∧ Hid (IntsO wr w.heap.size AO (j + 1) co (plsB b (j + 1))) ∧ Below w.heap.size w wr) (fun _ i _ => n - (intOf i).toNat)
  case atStart => exact ⟨0, 1, _, by omega, rfl, rfl, okP.one b S, HO.out, by go_grown⟩
  case round =>
    clear HO
    obtain ⟨j, co, AO, hj, rfl, rfl, HP, HO, hbr⟩ := hrel
    have RW := Lib.hid hbr
    have hz_wr := hbr.size
    obtain ⟨k, hk⟩ : ∃ k, j + 1 = k := ⟨_, rfl⟩
    have hki : (j : Int) + 1 = (k : Int) := by omega
    have hjk : (j : Int) < (k : Int) := by omega
    have HJK := Lib.hid hk
    rw [hk] at hj HP HO ⊢
    have o1 := (own_rd HO.out).2.1
    have o2 : co ≤ 9223372036854775807 := by have := (own_rd HO.out).2.2.1; unfold maxLen at this; exact this
    have hj16 : j ≤ 16 := by omega
    have hk16 : k ≤ 16 := by omega
    have hk1 : 1 ≤ k := by omega
    by_cases hkn : k < n
    ·
      have hkni : (k : Int) < (n : Int) := by omega
      have hP32 := numT_lt b k
      have HNX := Lib.hid (plsB_next b k hk1)
      have HPN := Lib.hid (fun h1 h2 h3 => okP.next (b := b) (S := S) (k := k) HP.out h1 h2 h3)
      have HPX := Lib.hid (fun h => okP.not (b := b) (S := S) (k := k) (n := n) hkn hk1 h)
      obtain ⟨g, o, hA, hcj⟩ := HO.out.rd.at_ (plsB_at b (show j < k by omega))
      subst hA
      rw [show k - 1 = j by omega] at HPN HPX
      obtain ⟨qa, hqa⟩ : ∃ qa, 4 * k = qa := ⟨_, rfl⟩
      obtain ⟨qb, hqb⟩ : ∃ qb, 4 * j = qb := ⟨_, rfl⟩
      have hqbi : (4 : Int) * (j : Int) = (qb : Int) := by omega
      have hqai : (4 : Int) + (qb : Int) = (qa : Int) := by omega
      have hqc : (8 : Int) + (qb : Int) = (qa : Int) + 4 := by omega
      have hqm : qa + 4 ≤ m := by have := HQ.out; have := HS.out; omega
      have VC := Lib.hid ((HB.out.stays hbr).cutS qa (qa + 4) (by omega) hqm (d := 4) (k := c - qa) (by omega) rfl)
      have s2 := run_cut und_bytes size_byte (A := A) (n := m) (c := c) (qa : Int) ((qa : Int) + 4) qa (qa + 4) 4 (c - qa) rfl (by omega) (by omega) (by omega) (by omega) rfl
      have HNK := Lib.hid (show be64 ((b.drop qa).take 4) 4 = numT b k by rw [← hqa]; rfl)
      have hqw : qa ≤ 100000 := by omega
      have hqw2 : qb ≤ 100000 := by omega
      clear hqa hqb hk hbr
      go_wp2_with fail
      refine (refGet_any _ _ _ _ _ VC.out).mono ?_
      rintro e q_ ⟨rfl, rfl⟩
      rw [HNK.out]
      obtain ⟨p, hp⟩ : ∃ p, numT b k = p := ⟨_, rfl⟩
      obtain ⟨pr, hpr⟩ : ∃ pr, plB b j = pr := ⟨_, rfl⟩
      rw [hp] at hP32 HNX HPN HPX ⊢
      rw [hpr] at HPN HPX hcj
      have ht4 : Int.tmod (p : Int) 4 = ((p % 4 : Nat) : Int) := by rw [Int.tmod_eq_emod_of_nonneg (by omega)]; omega
      obtain ⟨m4, hm4⟩ : ∃ m4, p % 4 = m4 := ⟨_, rfl⟩
      rw [hm4] at ht4 HPN HPX
      clear hm4 hp hpr VC
      by_cases hps : S < p
      ·
        have e2 : (S : Int) < (p : Int) := by omega
        have HX : Hid (¬ okP b S n) := HPX.out (fun q => by have := q.2.2; omega)
        have HE := Lib.hid (decR_form HL.out (by omega) (by omega) HN.out (by omega) (by omega) HS.out (fun q => HX.out q.1))
        go_wp2
        go_returns
        exact ⟨none, 0, 0, by rw [HE.out]; rfl, by rw [HE.out]; exact TagL.nil _, RW.out⟩
      have e2 : ¬ (S : Int) < (p : Int) := by omega
      by_cases hm0 : m4 = 0
      case neg =>
        have hm0b : (((m4 : Nat) : Int) != 0) = true := by simpa [bne] using hm0
        have HX : Hid (¬ okP b S n) := HPX.out (fun q => hm0 q.1)
        have HE := Lib.hid (decR_form HL.out (by omega) (by omega) HN.out (by omega) (by omega) HS.out (fun q => HX.out q.1))
        go_wp2
        go_returns
        exact ⟨none, 0, 0, by rw [HE.out]; rfl, by rw [HE.out]; exact TagL.nil _, RW.out⟩
      have hm0b : (((m4 : Nat) : Int) != 0) = false := by simp [bne, hm0]
      by_cases hpl : p < pr
      ·
        have e1 : (p : Int) < (pr : Int) := by omega
        have HX : Hid (¬ okP b S n) := HPX.out (fun q => by have := q.2.1; omega)
        have HE := Lib.hid (decR_form HL.out (by omega) (by omega) HN.out (by omega) (by omega) HS.out (fun q => HX.out q.1))
        go_wp2
        go_returns
        exact ⟨none, 0, 0, by rw [HE.out]; rfl, by rw [HE.out]; exact TagL.nil _, RW.out⟩
      have e1 : ¬ (p : Int) < (pr : Int) := by omega
      have HP2 := Lib.hid (HPN.out hm0 (by omega) (by omega))
      subst hm0
      go_wp2_with (at_builtin; refine wpList_append_h (vs := .slice (some ⟨g, o, none⟩) k co) (vx := .slice (some ⟨_, 0, none⟩) 1 1) rfl _ _ 23 23 rfl rfl rfl (R := fun v w' => ∃ A' c', v = .slice A' (k + 1) c' ∧ IntsO w' w.heap.size A' (k + 1) c' (plsB b k ++ [p]) ∧ Below w.heap.size _ w') (run_append_int (own_alloc HO.out _) (Blk.new _ _ _) (by omega) (by simp; omega) _) ?_; rintro v w8 ⟨A8, c8, rfl, hO, hb8⟩; have HO8 := Lib.hid hO; have R8 := Lib.hid ((RW.out.alloc hz_wr _).trans hb8); clear hO hb8)
      go_wp2
      go_roundw
      case rel => exact ⟨k, c8, A8, by omega, by go_num, rfl, HP2, by rw [Hid, HNX.out]; exact HO8.out, R8.out⟩
      case measure => simp [intOf]; have := HJK.out; omega
    obtain rfl : k = n := by omega
    have hkki : ¬ (j : Int) + 1 < (k : Int) := by omega
    clear hbr hkn hk
    have ht4 : Int.tmod (S : Int) 4 = ((S % 4 : Nat) : Int) := by rw [Int.tmod_eq_emod_of_nonneg (by omega)]; omega
    obtain ⟨m4, hm4⟩ : ∃ m4, S % 4 = m4 := ⟨_, rfl⟩
    have HM4 := Lib.hid hm4
    rw [hm4] at ht4
    clear hm4
    by_cases hm0 : m4 = 0
    case neg =>
      have hm0b : (((m4 : Nat) : Int) != 0) = true := by simpa [bne] using hm0
      have HE := Lib.hid (decR_form HL.out (by omega) (by omega) HN.out (by omega) (by omega) HS.out (fun q => hm0 (by rw [← HM4.out]; exact q.2)))
      go_wp2
      go_returns
      exact ⟨none, 0, 0, by rw [HE.out]; rfl, by rw [HE.out]; exact TagL.nil _, RW.out⟩
    subst hm0
    go_wp2_with (at_builtin; refine wpList_append_h (vs := .slice AO k co) (vx := .slice (some ⟨_, 0, none⟩) 1 1) rfl _ _ 23 23 rfl rfl rfl (R := fun v w' => ∃ A' c', v = .slice A' (k + 1) c' ∧ IntsO w' w.heap.size A' (k + 1) c' (plsB b k ++ [S]) ∧ Below w.heap.size _ w') (run_append_int (own_alloc HO.out _) (Blk.new _ _ _) (by omega) (by simp; omega) _) ?_; rintro v w8 ⟨PA, pc, rfl, hO, hb8⟩; have VP : Hid (IntsR w8 PA (k + 1) pc (allB b k S)) := IntsO.rd hO; have R8 := Lib.hid ((RW.out.alloc hz_wr _).trans hb8); clear hO hb8)
    have hz_w8 := R8.out.size
    have HO1 := Lib.hid HP.out
    have HS4 := Lib.hid HM4.out
    have p1 := VP.out.2.1
    have p2 : pc ≤ 9223372036854775807 := by have := VP.out.2.2.1; unfold maxLen at this; exact this
    have HB8 := Lib.hid (HB.out.stays R8.out)
    have VD8 := Lib.hid (VD.out.stays R8.out)
    clear HO RW hz_wr HB VD o1 o2 ht4 HP HM4
    have HB := HB8
    have VD := VD8
    clear HB8 VD8
    clear hjk hki hkki HJK hj16
    go_wp2_with fail
    go_loopw [10, 11] (fun so i wr => ∃ (u co : Nat) (AO : Option Addr), u ≤ k ∧ i = .int .i64 u ∧ so = .slice AO u co ∧ Hid (firstErr (tagsB b k S k) u = 0) ∧ Hid (TagsA wr w8.heap.size AO u co (tagsB b k S u)) ∧ Below w8.heap.size w8 wr) (fun _ i _ => k - (intOf i).toNat)
    case atStart => exact ⟨0, 0, none, Nat.zero_le _, rfl, rfl, rfl, OwnItems.nil _ _, Below.refl _ _⟩
    case round =>
      obtain ⟨u, co, AO, hu, rfl, rfl, HFE, HO, hbr⟩ := hrel
      have RW := Lib.hid hbr
      have hz_wr := hbr.size
      have o1 := HO.out.le
      have o2 := HO.out.cap
      have REND := Lib.hid (R8.out.trans (hbr.mono R8.out.size))
      by_cases hun : u < k
      ·
        have hui : (u : Int) < (k : Int) := by omega
        have HNX := Lib.hid (tagsB_next b k S u)
        have HAT := Lib.hid (atB_le HO1.out HS4.out hun)
        have HE0 := Lib.hid (tagErr_eq (tagsB b k S k) u)
        have HML := Lib.hid (dt_mod HO1.out HS4.out hun (by rw [HL.out]; exact HS.out))
        rw [tagsB_N b hun] at HE0
        obtain ⟨qn, hqn⟩ : ∃ qn, 4 * k = qn := ⟨_, rfl⟩
        have hqni : (4 : Int) * (k : Int) = (qn : Int) := by omega
        obtain ⟨qu, hqu⟩ : ∃ qu, 4 * u = qu := ⟨_, rfl⟩
        have hqui : (4 : Int) * (u : Int) = (qu : Int) := by omega
        obtain ⟨q4, hq4⟩ : ∃ q4, qn + qu = q4 := ⟨_, rfl⟩
        have hq4i : (qn : Int) + (qu : Int) = (q4 : Int) := by omega
        have hq4m : q4 + 4 ≤ m := by have := HQ.out; have := HS.out; omega
        have hq4n : (0 : Int) ≤ (q4 : Int) := by omega
        have VC := Lib.hid ((HB.out.stays hbr).cutS q4 (q4 + 4) (by omega) hq4m (d := 4) (k := c - q4) (by omega) rfl)
        have s2 := run_cut und_bytes size_byte (A := A) (n := m) (c := c) (q4 : Int) ((q4 : Int) + 4) q4 (q4 + 4) 4 (c - q4) rfl (by omega) (by omega) (by omega) (by omega) rfl
        have e1 := conv_str (P := Try.prog) VC.out 28 9 5 Try.underlying28 Try.underlying5 Try.underlying9
        obtain ⟨nm, hnm⟩ : ∃ nm, strOf ((b.drop q4).take 4) = nm := ⟨_, rfl⟩
        rw [hnm] at e1
        have HNM : Hid (nmB b k u = nm) := by rw [Hid, nmB, show 4 * (k + u) = q4 by omega]; exact hnm
        rw [HNM.out] at HE0
        have hqw : qn ≤ 100000 := by omega
        have hqw2 : qu ≤ 100000 := by omega
        have hqw3 : q4 ≤ 100000 := by omega
        clear hnm hq4 hqn hqu
        go_wp2_with fail
        refine (refNamed_any nm _).mono ?_
        rintro e q_ ⟨rfl, rfl⟩
        by_cases hno : nameOk nm
        case neg =>
          have HN2 : Hid (firstErr (tagsB b k S k) k = 11) := firstErr_at _ u k HFE.out hun (by rw [HE0.out]; exact if_pos hno) (by decide)
          have HE := Lib.hid (decR_err HL.out (by omega) (by omega) HN.out (by omega) (by omega) HS.out HO1.out HS4.out HN2.out (by decide))
          rw [decide_eq_false hno]
          clear hno
          go_wp2
          go_returns
          exact ⟨none, 0, 0, by rw [HE.out]; rfl, by rw [HE.out]; exact TagL.nil _, REND.out⟩
        rw [decide_eq_true hno]
        have HNO := Lib.hid hno
        obtain ⟨la, hla⟩ : ∃ la, lstT (tagsB b k S k) u = la := ⟨_, rfl⟩
        have HLA := Lib.hid hla
        obtain ⟨bl, hbl⟩ : ∃ bl, Op.bytesLess la.toList nm.toList = bl := ⟨_, rfl⟩
        have HBL := Lib.hid hbl
        rw [hla] at HE0
        clear hno hla
        by_cases hu0 : u = 0
        ·
          have hkz : ¬ (0 : Int) < (u : Int) := by omega
          have hkp : ¬ 0 < u := by omega
          obtain rfl : bl = true := by
            rw [← hbl, ← HLA.out, hu0]
            exact empty_less HNO.out.1
          clear hbl hu0
          have H1 : Hid (firstErr (tagsB b k S k) (u + 1) = 0) := firstErr_next _ u HFE.out (by rw [HE0.out, if_neg (fun q => q HNO.out), if_neg (fun q => by rw [HBL.out] at q; cases q), if_neg (fun q => q HML.out)])
          obtain ⟨a1, ha1⟩ : ∃ a1, atB b k S u = a1 := ⟨_, rfl⟩
          have e2 := allB_at b (S := S) (show u ≤ k by omega)
          obtain ⟨k1, hk1⟩ : ∃ k1, u + 1 = k1 := ⟨_, rfl⟩
          have hk1i : (u : Int) + 1 = (k1 : Int) := by omega
          have hk1w : IntKind.i64.wrap (k1 : Int) = (k1 : Int) := IntWalk.i64_in _ (by omega)
          have hk1n : (k1 : Int) < (k : Int) + 1 := by omega
          have e3 := allB_at b (S := S) (show u + 1 ≤ k by omega)
          rw [hk1] at e3 HAT
          obtain ⟨a2, ha2⟩ : ∃ a2, atB b k S k1 = a2 := ⟨_, rfl⟩
          have hdt : dtB b k S u = ((b.drop q).drop a1).take (a2 - a1) := by rw [dtB, hk1, ha1, ha2, HQ.out]
          have HDT := Lib.hid hdt
          rw [ha1] at e2 HAT
          rw [ha2] at e3 HAT
          have hat := HAT.out
          have t1 : a1 ≤ a2 := hat.1
          have t2 : a2 ≤ S := hat.2.1
          obtain ⟨g, o, hPA, hd1⟩ := VP.out.at_ e2
          subst hPA
          obtain ⟨g0, o0, hPA0, hd2⟩ := VP.out.at_ e3
          simp only [Option.some.injEq, Addr.mk.injEq] at hPA0
          obtain ⟨rfl, rfl, _⟩ := hPA0
          have HC1 := Lib.hid hd1
          have HC2 := Lib.hid hd2
          obtain ⟨dd, hdd⟩ : ∃ dd, a2 - a1 = dd := ⟨_, rfl⟩
          rw [hdd] at HDT
          have VE := Lib.hid (VD.out.cutS a1 a2 t1 t2 (d := dd) (k := cd - a1) hdd rfl)
          have s3 := run_cut und_bytes size_byte (A := cutA A c q) (n := S) (c := cd) (a1 : Int) (a2 : Int) a1 a2 dd (cd - a1) rfl rfl t1 (by have := HS.out; have := HQ.out; have := HCD.out; omega) hdd rfl
          have hdd9 : dd ≤ 2048 := by omega
          have h1n : (u : Int) < (k : Int) + 1 := by omega
          have ht12 : (a1 : Int) ≤ (a2 : Int) := by omega
          have HFL : Hid (([((b.drop q).drop a1).take dd] : List (List UInt8)).flatten.length = dd) := by rw [Hid]; simpa using VE.out.len
          clear hdt ha1 ha2 e2 e3 hat hd1 hd2 hdd HAT VC hk1
          go_upto_region 32 with fail
          refine zBegin (Z := []) (S := fun w' => Below w8.heap.size w8 w') (by kernel_rfl) ?pz1 (RW.out.drew) (fun hPQ wd hbd hHeld => ?sz1)
          case pz1 => (repeat (with_reducible first | refine PQ.then ?_ | refine PQ.block ?_)); exact fun _ _ d _ _ h => by cases d <;> exact h
          case sz1 =>
            have HO := HO.out.stays hbd
            clear hbd e1
            refine zVal (i := 0) (d := (some 126)) (v := ?_) rfl rfl (by kernel_rfl) (by kernel_rfl) (by kernel_rfl) (by kernel_rfl) hPQ (by rfl) (fun wq hSw => ?_) hHeld ?_
            rotate_left 1
            · have cS1 := cell_stays hSw HC1.out; have cS2 := cell_stays hSw HC2.out; go_simp; try with_reducible rfl
            try simp only [Act.put, List.setIfInBounds_toArray, List.set_cons_zero, List.set_cons_succ]
            refine zVal (i := 1) (d := (some 127)) (v := ?_) rfl rfl (by kernel_rfl) (by kernel_rfl) (by kernel_rfl) (by kernel_rfl) hPQ (by rfl) (fun wq hSw => ?_) hHeld ?_
            rotate_left 1
            · have cS1 := cell_stays hSw HC1.out; have cS2 := cell_stays hSw HC2.out; go_simp; try with_reducible rfl
            try simp only [Act.put, List.setIfInBounds_toArray, List.set_cons_zero, List.set_cons_succ]
            refine zVal (i := 2) (d := (some 128)) (v := ?_) rfl rfl (by kernel_rfl) (by kernel_rfl) (by kernel_rfl) (by kernel_rfl) hPQ (by rfl) (fun wq hSw => ?_) hHeld ?_
            rotate_left 1
            · have cS1 := cell_stays hSw HC1.out; have cS2 := cell_stays hSw HC2.out; go_simp; try with_reducible rfl
            try simp only [Act.put, List.setIfInBounds_toArray, List.set_cons_zero, List.set_cons_succ]
            refine zVal (i := 3) (d := (some 129)) (v := ?_) rfl rfl (by kernel_rfl) (by kernel_rfl) (by kernel_rfl) (by kernel_rfl) hPQ (by rfl) (fun wq hSw => ?_) hHeld ?_
            rotate_left 1
            · have cS1 := cell_stays hSw HC1.out; have cS2 := cell_stays hSw HC2.out; go_simp; try with_reducible rfl
            try simp only [Act.put, List.setIfInBounds_toArray, List.set_cons_zero, List.set_cons_succ]
            refine zVal (i := 4) (d := (some 130)) (v := ?_) rfl rfl (by kernel_rfl) (by kernel_rfl) (by kernel_rfl) (by kernel_rfl) hPQ (by rfl) (fun wq hSw => ?_) hHeld ?_
            rotate_left 1
            · have cS1 := cell_stays hSw HC1.out; have cS2 := cell_stays hSw HC2.out; go_simp; try with_reducible rfl
            try simp only [Act.put, List.setIfInBounds_toArray, List.set_cons_zero, List.set_cons_succ]
            refine zVal (i := 5) (d := (some 131)) (v := ?_) rfl rfl (by kernel_rfl) (by kernel_rfl) (by kernel_rfl) (by kernel_rfl) hPQ (by rfl) (fun wq hSw => ?_) hHeld ?_
            rotate_left 1
            · have cS1 := cell_stays hSw HC1.out; have cS2 := cell_stays hSw HC2.out; go_simp; try with_reducible rfl
            try simp only [Act.put, List.setIfInBounds_toArray, List.set_cons_zero, List.set_cons_succ]
            refine zVal (i := 6) (d := (some 132)) (v := ?_) rfl rfl (by kernel_rfl) (by kernel_rfl) (by kernel_rfl) (by kernel_rfl) hPQ (by rfl) (fun wq hSw => ?_) hHeld ?_
            rotate_left 1
            · have cS1 := cell_stays hSw HC1.out; have cS2 := cell_stays hSw HC2.out; go_simp; try with_reducible rfl
            try simp only [Act.put, List.setIfInBounds_toArray, List.set_cons_zero, List.set_cons_succ]
            refine zVal (i := 7) (d := (some 133)) (v := ?_) rfl rfl (by kernel_rfl) (by kernel_rfl) (by kernel_rfl) (by kernel_rfl) hPQ (by rfl) (fun wq hSw => ?_) hHeld ?_
            rotate_left 1
            · have cS1 := cell_stays hSw HC1.out; have cS2 := cell_stays hSw HC2.out; go_simp; try with_reducible rfl
            try simp only [Act.put, List.setIfInBounds_toArray, List.set_cons_zero, List.set_cons_succ]
            refine zVal (i := 8) (d := (some 134)) (v := ?_) rfl rfl (by kernel_rfl) (by kernel_rfl) (by kernel_rfl) (by kernel_rfl) hPQ (by rfl) (fun wq hSw => ?_) hHeld ?_
            rotate_left 1
            · have cS1 := cell_stays hSw HC1.out; have cS2 := cell_stays hSw HC2.out; go_simp; try with_reducible rfl
            try simp only [Act.put, List.setIfInBounds_toArray, List.set_cons_zero, List.set_cons_succ]
            refine zVal (i := 9) (d := (some 135)) (v := ?_) rfl rfl (by kernel_rfl) (by kernel_rfl) (by kernel_rfl) (by kernel_rfl) hPQ (by rfl) (fun wq hSw => ?_) hHeld ?_
            rotate_left 1
            · have cS1 := cell_stays hSw HC1.out; have cS2 := cell_stays hSw HC2.out; go_simp; try with_reducible rfl
            try simp only [Act.put, List.setIfInBounds_toArray, List.set_cons_zero, List.set_cons_succ]
            refine zVal (i := 10) (d := (some 136)) (v := ?_) rfl rfl (by kernel_rfl) (by kernel_rfl) (by kernel_rfl) (by kernel_rfl) hPQ (by rfl) (fun wq hSw => ?_) hHeld ?_
            rotate_left 1
            · have cS1 := cell_stays hSw HC1.out; have cS2 := cell_stays hSw HC2.out; go_simp; try with_reducible rfl
            try simp only [Act.put, List.setIfInBounds_toArray, List.set_cons_zero, List.set_cons_succ]
            refine zVal (i := 11) (d := (some 137)) (v := ?_) rfl rfl (by kernel_rfl) (by kernel_rfl) (by kernel_rfl) (by kernel_rfl) hPQ (by rfl) (fun wq hSw => ?_) hHeld ?_
            rotate_left 1
            · have cS1 := cell_stays hSw HC1.out; have cS2 := cell_stays hSw HC2.out; go_simp; try with_reducible rfl
            try simp only [Act.put, List.setIfInBounds_toArray, List.set_cons_zero, List.set_cons_succ]
            refine zVal (i := 12) (d := (some 138)) (v := ?_) rfl rfl (by kernel_rfl) (by kernel_rfl) (by kernel_rfl) (by kernel_rfl) hPQ (by rfl) (fun wq hSw => ?_) hHeld ?_
            rotate_left 1
            · have cS1 := cell_stays hSw HC1.out; have cS2 := cell_stays hSw HC2.out; go_simp; try with_reducible rfl
            try simp only [Act.put, List.setIfInBounds_toArray, List.set_cons_zero, List.set_cons_succ]
            refine zAlone (j := 13) (by kernel_rfl) ?_
            refine zOpNew (j := 13) (d := (some 139)) (T := 28) (z := #[.slice (cutA (cutA A c q) cd a1) dd (cd - a1)]) (val := fun g => .slice (some ⟨g, 0, none⟩) 1 1) rfl rfl (by rfl) ?rz2 (fun gl u0 gl_ge gl_lt BL hb0 => ⟨.inr (hHeld.trans (hb0.mono hHeld.size)), ?tz2⟩)
            case rz2 => go_simp; try with_reducible rfl
            case tz2 =>
              try simp only [Act.put, List.setIfInBounds_toArray, List.set_cons_zero, List.set_cons_succ]
              have HO := HO.stays hb0
              have hHeld := hHeld.trans (hb0.mono hHeld.size)
              refine zAlone (j := 14) (by kernel_rfl) ?_
              refine zOpCall (j := 14) (d := (some 140)) (R := fun v w' => ∃ Ap cp, v = .slice Ap dd cp ∧ w'.ownsRow u0.heap.size 5 1 (.slice Ap dd cp) dd (([((b.drop q).drop a1).take dd] : List (List UInt8)).flatten.map byteV) ∧ Below u0.heap.size u0 w') rfl rfl (by rfl) ?rz3 ((refJoin_any _ _ _ [_] _ (lists_blk1h BL (VE.out.stays hHeld)) _ HFL.out (by omega)).mono fun e q hq => by obtain ⟨Ap, cp, h1, h2, h3⟩ := hq; exact ⟨_, h1, Ap, cp, rfl, h2, h3⟩) (fun v u1 hRv => ?tz3)
              case rz3 => go_simp
              case tz3 =>
                obtain ⟨AD, cD, rfl, hD, hb1⟩ := hRv
                refine ⟨.inr (hHeld.trans (hb1.mono hHeld.size)), ?_⟩
                try simp only [Act.put, List.setIfInBounds_toArray, List.set_cons_zero, List.set_cons_succ]
                have HOF : Off AD dd (Value.slice AO u co).ownBlock := Off.fresh (Fresh.own hD) HO.lt
                have HO := HO.stays hb1
                have hHeld := hHeld.trans (hb1.mono hHeld.size)
                have hDB : Bytes u1 AD dd cD (((b.drop q).drop a1).take dd) := by have := own_rd hD; unfold Bytes; simpa using this
                rw [← HDT.out] at hDB
                clear hb1 hD
                refine zVal (i := 15) (d := (some 141)) (v := ?_) rfl rfl (by kernel_rfl) (by kernel_rfl) (by kernel_rfl) (by kernel_rfl) hPQ (by rfl) (fun wq hSw => ?_) hHeld ?_
                rotate_left 1
                · have cS1 := cell_stays hSw HC1.out; have cS2 := cell_stays hSw HC2.out; go_simp; try with_reducible rfl
                try simp only [Act.put, List.setIfInBounds_toArray, List.set_cons_zero, List.set_cons_succ]
                refine zAlone (j := 16) (by kernel_rfl) ?_
                refine zOpNew (j := 16) (d := (some 142)) (T := 60) (z := #[.string nm, .slice AD dd cD]) (val := fun g => .slice (some ⟨g, 0, none⟩) 1 1) rfl rfl (by rfl) ?rz4 (fun gf u2 gf_ge gf_lt BF hb2 => ⟨.inr (hHeld.trans (hb2.mono hHeld.size)), ?tz4⟩)
                case rz4 => go_simp; try with_reducible rfl
                case tz4 =>
                  try simp only [Act.put, List.setIfInBounds_toArray, List.set_cons_zero, List.set_cons_succ]
                  have HO := HO.stays hb2
                  have hDB := hDB.stays hb2
                  have hHeld := hHeld.trans (hb2.mono hHeld.size)
                  refine zAlone (j := 17) (by kernel_rfl) ?_
                  refine zOpApp (j := 17) (d := (some 143)) (R := fun v w' => ∃ A8 c8, v = .slice A8 (u + 1) c8 ∧ TagsA w' w8.heap.size A8 (u + 1) c8 (tagsB b k S u ++ [(nm, dtB b k S u)]) ∧ Below w8.heap.size u2 w') rfl rfl (by rfl) rfl (by rfl) (by rfl) (tags_app HO BF hDB HOF (by omega) hHeld.size _) (fun v u3 hRv => ?tz5)
                  case tz5 =>
                    obtain ⟨A8, c8, rfl, HO8, hb3⟩ := hRv
                    refine ⟨.inr (hHeld.trans hb3), ?_⟩
                    try simp only [Act.put, List.setIfInBounds_toArray, List.set_cons_zero, List.set_cons_succ]
                    have R3 := hHeld.trans hb3
                    have O3 : Hid (TagsA u3 w8.heap.size A8 (u + 1) c8 (tagsB b k S (u + 1))) := by rw [Hid, HNX.out, HNM.out]; exact HO8
                    clear hb3 HO8 hHeld hDB
                    have hHeld := R3
                    refine zVal (i := 18) (d := (some 10)) (v := ?_) rfl rfl (by kernel_rfl) (by kernel_rfl) (by kernel_rfl) (by kernel_rfl) hPQ (by rfl) (fun wq hSw => ?_) hHeld ?_
                    rotate_left 1
                    · have cS1 := cell_stays hSw HC1.out; have cS2 := cell_stays hSw HC2.out; go_simp; try with_reducible rfl
                    try simp only [Act.put, List.setIfInBounds_toArray, List.set_cons_zero, List.set_cons_succ]
                    refine zDone (by kernel_rfl) ?_ _
                    clear hHeld
                    go_wp2
                    go_roundw
                    case rel => exact ⟨u + 1, c8, A8, by omega, by go_num, rfl, H1, O3, R3⟩
                    case measure => simp [intOf]; omega
        ·
          have hkz : (0 : Int) < (u : Int) := by omega
          have hkp : 0 < u := by omega
          obtain ⟨j, hj⟩ : ∃ j, u = j + 1 := ⟨u - 1, by omega⟩
          have hji : (u : Int) - 1 = (j : Int) := by omega
          have hjw : IntKind.i64.wrap (j : Int) = (j : Int) := IntWalk.i64_in _ (by omega)
          have hjn : (j : Int) < (u : Int) := by omega
          obtain ⟨bb2, off2, A2, n2, c2, eAO, hd0, hd1, _⟩ := HO.out.tags.at_ (show j < u by omega)
          subst eAO
          have hlj : tgN (tagsB b k S u) j = la := by rw [← HLA.out, lstT, if_neg hu0, hj, Nat.add_sub_cancel, tagsB_N b (by omega), tagsB_N b (by omega)]
          rw [hlj] at hd0
          clear hd1 hlj hu0 hj
          cases bl with
          | false =>
            have HN2 : Hid (firstErr (tagsB b k S k) k = 12) := firstErr_at _ u k HFE.out hun (by rw [HE0.out]; rw [if_neg (fun q => q HNO.out), if_pos HBL.out]) (by decide)
            have HE := Lib.hid (decR_err HL.out (by omega) (by omega) HN.out (by omega) (by omega) HS.out HO1.out HS4.out HN2.out (by decide))
            go_wp2
            go_returns
            exact ⟨none, 0, 0, by rw [HE.out]; rfl, by rw [HE.out]; exact TagL.nil _, REND.out⟩
          | true =>
            have H1 : Hid (firstErr (tagsB b k S k) (u + 1) = 0) := firstErr_next _ u HFE.out (by rw [HE0.out, if_neg (fun q => q HNO.out), if_neg (fun q => by rw [HBL.out] at q; cases q), if_neg (fun q => q HML.out)])
            obtain ⟨a1, ha1⟩ : ∃ a1, atB b k S u = a1 := ⟨_, rfl⟩
            have e2 := allB_at b (S := S) (show u ≤ k by omega)
            obtain ⟨k1, hk1⟩ : ∃ k1, u + 1 = k1 := ⟨_, rfl⟩
            have hk1i : (u : Int) + 1 = (k1 : Int) := by omega
            have hk1w : IntKind.i64.wrap (k1 : Int) = (k1 : Int) := IntWalk.i64_in _ (by omega)
            have hk1n : (k1 : Int) < (k : Int) + 1 := by omega
            have e3 := allB_at b (S := S) (show u + 1 ≤ k by omega)
            rw [hk1] at e3 HAT
            obtain ⟨a2, ha2⟩ : ∃ a2, atB b k S k1 = a2 := ⟨_, rfl⟩
            have hdt : dtB b k S u = ((b.drop q).drop a1).take (a2 - a1) := by rw [dtB, hk1, ha1, ha2, HQ.out]
            have HDT := Lib.hid hdt
            rw [ha1] at e2 HAT
            rw [ha2] at e3 HAT
            have hat := HAT.out
            have t1 : a1 ≤ a2 := hat.1
            have t2 : a2 ≤ S := hat.2.1
            obtain ⟨g, o, hPA, hd1⟩ := VP.out.at_ e2
            subst hPA
            obtain ⟨g0, o0, hPA0, hd2⟩ := VP.out.at_ e3
            simp only [Option.some.injEq, Addr.mk.injEq] at hPA0
            obtain ⟨rfl, rfl, _⟩ := hPA0
            have HC1 := Lib.hid hd1
            have HC2 := Lib.hid hd2
            obtain ⟨dd, hdd⟩ : ∃ dd, a2 - a1 = dd := ⟨_, rfl⟩
            rw [hdd] at HDT
            have VE := Lib.hid (VD.out.cutS a1 a2 t1 t2 (d := dd) (k := cd - a1) hdd rfl)
            have s3 := run_cut und_bytes size_byte (A := cutA A c q) (n := S) (c := cd) (a1 : Int) (a2 : Int) a1 a2 dd (cd - a1) rfl rfl t1 (by have := HS.out; have := HQ.out; have := HCD.out; omega) hdd rfl
            have hdd9 : dd ≤ 2048 := by omega
            have h1n : (u : Int) < (k : Int) + 1 := by omega
            have ht12 : (a1 : Int) ≤ (a2 : Int) := by omega
            have HFL : Hid (([((b.drop q).drop a1).take dd] : List (List UInt8)).flatten.length = dd) := by rw [Hid]; simpa using VE.out.len
            clear hdt ha1 ha2 e2 e3 hat hd1 hd2 hdd HAT VC hk1
            go_upto_region 32 with fail
            refine zBegin (Z := []) (S := fun w' => Below w8.heap.size w8 w') (by kernel_rfl) ?pz6 (RW.out.drew) (fun hPQ wd hbd hHeld => ?sz6)
            case pz6 => (repeat (with_reducible first | refine PQ.then ?_ | refine PQ.block ?_)); exact fun _ _ d _ _ h => by cases d <;> exact h
            case sz6 =>
              have HO := HO.out.stays hbd
              clear hbd e1
              refine zVal (i := 0) (d := (some 126)) (v := ?_) rfl rfl (by kernel_rfl) (by kernel_rfl) (by kernel_rfl) (by kernel_rfl) hPQ (by rfl) (fun wq hSw => ?_) hHeld ?_
              rotate_left 1
              · have cS1 := cell_stays hSw HC1.out; have cS2 := cell_stays hSw HC2.out; go_simp; try with_reducible rfl
              try simp only [Act.put, List.setIfInBounds_toArray, List.set_cons_zero, List.set_cons_succ]
              refine zVal (i := 1) (d := (some 127)) (v := ?_) rfl rfl (by kernel_rfl) (by kernel_rfl) (by kernel_rfl) (by kernel_rfl) hPQ (by rfl) (fun wq hSw => ?_) hHeld ?_
              rotate_left 1
              · have cS1 := cell_stays hSw HC1.out; have cS2 := cell_stays hSw HC2.out; go_simp; try with_reducible rfl
              try simp only [Act.put, List.setIfInBounds_toArray, List.set_cons_zero, List.set_cons_succ]
              refine zVal (i := 2) (d := (some 128)) (v := ?_) rfl rfl (by kernel_rfl) (by kernel_rfl) (by kernel_rfl) (by kernel_rfl) hPQ (by rfl) (fun wq hSw => ?_) hHeld ?_
              rotate_left 1
              · have cS1 := cell_stays hSw HC1.out; have cS2 := cell_stays hSw HC2.out; go_simp; try with_reducible rfl
              try simp only [Act.put, List.setIfInBounds_toArray, List.set_cons_zero, List.set_cons_succ]
              refine zVal (i := 3) (d := (some 129)) (v := ?_) rfl rfl (by kernel_rfl) (by kernel_rfl) (by kernel_rfl) (by kernel_rfl) hPQ (by rfl) (fun wq hSw => ?_) hHeld ?_
              rotate_left 1
              · have cS1 := cell_stays hSw HC1.out; have cS2 := cell_stays hSw HC2.out; go_simp; try with_reducible rfl
              try simp only [Act.put, List.setIfInBounds_toArray, List.set_cons_zero, List.set_cons_succ]
              refine zVal (i := 4) (d := (some 130)) (v := ?_) rfl rfl (by kernel_rfl) (by kernel_rfl) (by kernel_rfl) (by kernel_rfl) hPQ (by rfl) (fun wq hSw => ?_) hHeld ?_
              rotate_left 1
              · have cS1 := cell_stays hSw HC1.out; have cS2 := cell_stays hSw HC2.out; go_simp; try with_reducible rfl
              try simp only [Act.put, List.setIfInBounds_toArray, List.set_cons_zero, List.set_cons_succ]
              refine zVal (i := 5) (d := (some 131)) (v := ?_) rfl rfl (by kernel_rfl) (by kernel_rfl) (by kernel_rfl) (by kernel_rfl) hPQ (by rfl) (fun wq hSw => ?_) hHeld ?_
              rotate_left 1
              · have cS1 := cell_stays hSw HC1.out; have cS2 := cell_stays hSw HC2.out; go_simp; try with_reducible rfl
              try simp only [Act.put, List.setIfInBounds_toArray, List.set_cons_zero, List.set_cons_succ]
              refine zVal (i := 6) (d := (some 132)) (v := ?_) rfl rfl (by kernel_rfl) (by kernel_rfl) (by kernel_rfl) (by kernel_rfl) hPQ (by rfl) (fun wq hSw => ?_) hHeld ?_
              rotate_left 1
              · have cS1 := cell_stays hSw HC1.out; have cS2 := cell_stays hSw HC2.out; go_simp; try with_reducible rfl
              try simp only [Act.put, List.setIfInBounds_toArray, List.set_cons_zero, List.set_cons_succ]
              refine zVal (i := 7) (d := (some 133)) (v := ?_) rfl rfl (by kernel_rfl) (by kernel_rfl) (by kernel_rfl) (by kernel_rfl) hPQ (by rfl) (fun wq hSw => ?_) hHeld ?_
              rotate_left 1
              · have cS1 := cell_stays hSw HC1.out; have cS2 := cell_stays hSw HC2.out; go_simp; try with_reducible rfl
              try simp only [Act.put, List.setIfInBounds_toArray, List.set_cons_zero, List.set_cons_succ]
              refine zVal (i := 8) (d := (some 134)) (v := ?_) rfl rfl (by kernel_rfl) (by kernel_rfl) (by kernel_rfl) (by kernel_rfl) hPQ (by rfl) (fun wq hSw => ?_) hHeld ?_
              rotate_left 1
              · have cS1 := cell_stays hSw HC1.out; have cS2 := cell_stays hSw HC2.out; go_simp; try with_reducible rfl
              try simp only [Act.put, List.setIfInBounds_toArray, List.set_cons_zero, List.set_cons_succ]
              refine zVal (i := 9) (d := (some 135)) (v := ?_) rfl rfl (by kernel_rfl) (by kernel_rfl) (by kernel_rfl) (by kernel_rfl) hPQ (by rfl) (fun wq hSw => ?_) hHeld ?_
              rotate_left 1
              · have cS1 := cell_stays hSw HC1.out; have cS2 := cell_stays hSw HC2.out; go_simp; try with_reducible rfl
              try simp only [Act.put, List.setIfInBounds_toArray, List.set_cons_zero, List.set_cons_succ]
              refine zVal (i := 10) (d := (some 136)) (v := ?_) rfl rfl (by kernel_rfl) (by kernel_rfl) (by kernel_rfl) (by kernel_rfl) hPQ (by rfl) (fun wq hSw => ?_) hHeld ?_
              rotate_left 1
              · have cS1 := cell_stays hSw HC1.out; have cS2 := cell_stays hSw HC2.out; go_simp; try with_reducible rfl
              try simp only [Act.put, List.setIfInBounds_toArray, List.set_cons_zero, List.set_cons_succ]
              refine zVal (i := 11) (d := (some 137)) (v := ?_) rfl rfl (by kernel_rfl) (by kernel_rfl) (by kernel_rfl) (by kernel_rfl) hPQ (by rfl) (fun wq hSw => ?_) hHeld ?_
              rotate_left 1
              · have cS1 := cell_stays hSw HC1.out; have cS2 := cell_stays hSw HC2.out; go_simp; try with_reducible rfl
              try simp only [Act.put, List.setIfInBounds_toArray, List.set_cons_zero, List.set_cons_succ]
              refine zVal (i := 12) (d := (some 138)) (v := ?_) rfl rfl (by kernel_rfl) (by kernel_rfl) (by kernel_rfl) (by kernel_rfl) hPQ (by rfl) (fun wq hSw => ?_) hHeld ?_
              rotate_left 1
              · have cS1 := cell_stays hSw HC1.out; have cS2 := cell_stays hSw HC2.out; go_simp; try with_reducible rfl
              try simp only [Act.put, List.setIfInBounds_toArray, List.set_cons_zero, List.set_cons_succ]
              refine zAlone (j := 13) (by kernel_rfl) ?_
              refine zOpNew (j := 13) (d := (some 139)) (T := 28) (z := #[.slice (cutA (cutA A c q) cd a1) dd (cd - a1)]) (val := fun g => .slice (some ⟨g, 0, none⟩) 1 1) rfl rfl (by rfl) ?rz7 (fun gl u0 gl_ge gl_lt BL hb0 => ⟨.inr (hHeld.trans (hb0.mono hHeld.size)), ?tz7⟩)
              case rz7 => go_simp; try with_reducible rfl
              case tz7 =>
                try simp only [Act.put, List.setIfInBounds_toArray, List.set_cons_zero, List.set_cons_succ]
                have HO := HO.stays hb0
                have hHeld := hHeld.trans (hb0.mono hHeld.size)
                refine zAlone (j := 14) (by kernel_rfl) ?_
                refine zOpCall (j := 14) (d := (some 140)) (R := fun v w' => ∃ Ap cp, v = .slice Ap dd cp ∧ w'.ownsRow u0.heap.size 5 1 (.slice Ap dd cp) dd (([((b.drop q).drop a1).take dd] : List (List UInt8)).flatten.map byteV) ∧ Below u0.heap.size u0 w') rfl rfl (by rfl) ?rz8 ((refJoin_any _ _ _ [_] _ (lists_blk1h BL (VE.out.stays hHeld)) _ HFL.out (by omega)).mono fun e q hq => by obtain ⟨Ap, cp, h1, h2, h3⟩ := hq; exact ⟨_, h1, Ap, cp, rfl, h2, h3⟩) (fun v u1 hRv => ?tz8)
                case rz8 => go_simp
                case tz8 =>
                  obtain ⟨AD, cD, rfl, hD, hb1⟩ := hRv
                  refine ⟨.inr (hHeld.trans (hb1.mono hHeld.size)), ?_⟩
                  try simp only [Act.put, List.setIfInBounds_toArray, List.set_cons_zero, List.set_cons_succ]
                  have HOF : Off AD dd (Value.slice (some ⟨bb2, off2, none⟩) u co).ownBlock := Off.fresh (Fresh.own hD) HO.lt
                  have HO := HO.stays hb1
                  have hHeld := hHeld.trans (hb1.mono hHeld.size)
                  have hDB : Bytes u1 AD dd cD (((b.drop q).drop a1).take dd) := by have := own_rd hD; unfold Bytes; simpa using this
                  rw [← HDT.out] at hDB
                  clear hb1 hD
                  refine zVal (i := 15) (d := (some 141)) (v := ?_) rfl rfl (by kernel_rfl) (by kernel_rfl) (by kernel_rfl) (by kernel_rfl) hPQ (by rfl) (fun wq hSw => ?_) hHeld ?_
                  rotate_left 1
                  · have cS1 := cell_stays hSw HC1.out; have cS2 := cell_stays hSw HC2.out; go_simp; try with_reducible rfl
                  try simp only [Act.put, List.setIfInBounds_toArray, List.set_cons_zero, List.set_cons_succ]
                  refine zAlone (j := 16) (by kernel_rfl) ?_
                  refine zOpNew (j := 16) (d := (some 142)) (T := 60) (z := #[.string nm, .slice AD dd cD]) (val := fun g => .slice (some ⟨g, 0, none⟩) 1 1) rfl rfl (by rfl) ?rz9 (fun gf u2 gf_ge gf_lt BF hb2 => ⟨.inr (hHeld.trans (hb2.mono hHeld.size)), ?tz9⟩)
                  case rz9 => go_simp; try with_reducible rfl
                  case tz9 =>
                    try simp only [Act.put, List.setIfInBounds_toArray, List.set_cons_zero, List.set_cons_succ]
                    have HO := HO.stays hb2
                    have hDB := hDB.stays hb2
                    have hHeld := hHeld.trans (hb2.mono hHeld.size)
                    refine zAlone (j := 17) (by kernel_rfl) ?_
                    refine zOpApp (j := 17) (d := (some 143)) (R := fun v w' => ∃ A8 c8, v = .slice A8 (u + 1) c8 ∧ TagsA w' w8.heap.size A8 (u + 1) c8 (tagsB b k S u ++ [(nm, dtB b k S u)]) ∧ Below w8.heap.size u2 w') rfl rfl (by rfl) rfl (by rfl) (by rfl) (tags_app HO BF hDB HOF (by omega) hHeld.size _) (fun v u3 hRv => ?tz10)
                    case tz10 =>
                      obtain ⟨A8, c8, rfl, HO8, hb3⟩ := hRv
                      refine ⟨.inr (hHeld.trans hb3), ?_⟩
                      try simp only [Act.put, List.setIfInBounds_toArray, List.set_cons_zero, List.set_cons_succ]
                      have R3 := hHeld.trans hb3
                      have O3 : Hid (TagsA u3 w8.heap.size A8 (u + 1) c8 (tagsB b k S (u + 1))) := by rw [Hid, HNX.out, HNM.out]; exact HO8
                      clear hb3 HO8 hHeld hDB
                      have hHeld := R3
                      refine zVal (i := 18) (d := (some 10)) (v := ?_) rfl rfl (by kernel_rfl) (by kernel_rfl) (by kernel_rfl) (by kernel_rfl) hPQ (by rfl) (fun wq hSw => ?_) hHeld ?_
                      rotate_left 1
                      · have cS1 := cell_stays hSw HC1.out; have cS2 := cell_stays hSw HC2.out; go_simp; try with_reducible rfl
                      try simp only [Act.put, List.setIfInBounds_toArray, List.set_cons_zero, List.set_cons_succ]
                      refine zDone (by kernel_rfl) ?_ _
                      clear hHeld
                      go_wp2
                      go_roundw
                      case rel => exact ⟨u + 1, c8, A8, by omega, by go_num, rfl, H1, O3, R3⟩
                      case measure => simp [intOf]; omega
      obtain rfl : u = k := by omega
      have HE := Lib.hid (decR_ok HL.out (by omega) (by omega) HN.out (by omega) (by omega) HS.out HO1.out HS4.out HFE.out)
      go_wp2
      go_returns
      exact ⟨AO, u, co, by rw [HE.out]; rfl, by rw [HE.out]; exact HO.out.tags, REND.out⟩
end Go.Proofs.Ytbjmojajhkhekaa
