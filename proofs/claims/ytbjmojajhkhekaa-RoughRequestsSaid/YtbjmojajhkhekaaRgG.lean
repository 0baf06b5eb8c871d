/- rough.Decode. -/
import Derived.Test.YtbjmojajhkhekaaRgF
namespace Go.Proofs.Ytbjmojajhkhekaa
open Go Go.RowKit

theorem number0_any (A : Option Addr) (m c : Nat) (b : List UInt8) (w : World) (hb : Bytes w A m c b) (hi : 4 ≤ m) (hm : m ≤ 100000) :
    Calls Try.prog 65 #[.slice A m c, .int .i64 0] w fun e w' => e = .returned (.int .i64 (numT b 0)) ∧ w = w' := number_any A m c b 0 w hb (by omega) hm
theorem infoTag : (Try.prog.info? 60).map (fun i => (i.zero, i.size, i.bytes)) = some (some (.agg #[.string ByteArray.empty, .slice none 0 0]), 2, 40) := by kernel_rfl
abbrev TagsA (w : World) (B : Nat) (A : Option Addr) (n c : Nat) (ts : Tags) : Prop := OwnItems 2 encTag Prod.snd 60 w B A n c ts
theorem tags_app {w : World} {B n c : Nat} {A : Option Addr} {ts : Tags} (h : TagsA w B A n c ts) {gf : Nat} {nm : ByteArray} {A1 : Option Addr} {n1 c1 : Nat} {d : List UInt8} (hB : Blk w gf 60 #[.string nm, .slice A1 n1 c1]) (hd : Bytes w A1 n1 c1 d) (ho : Off A1 n1 (Value.slice A n c).ownBlock) (hn : n ≤ 1000) (hz : B ≤ w.heap.size) (ty : TypeId) :
    ∃ v w', (Builtin.append_ #[22, 22] ty #[.slice A n c, .slice (some ⟨gf, 0, none⟩) 1 1]).run Try.prog w = .ok v w' ∧ ∃ A8 c8, v = .slice A8 (n + 1) c8 ∧ TagsA w' B A8 (n + 1) c8 (ts ++ [(nm, d)]) ∧ Below B w w' := by
  obtain ⟨i0, hi, hz0, hz1, hz2⟩ := info_parts infoTag
  have hr : Rd w 2 (some ⟨gf, 0, none⟩) 1 1 (encTag (nm, d) A1 n1 c1) := by
    refine ⟨rfl, Nat.le_refl _, by decide, fun i u hu => ⟨gf, 0, rfl, ?_⟩⟩
    rw [Nat.zero_add, hB.cell i, ← hu]
    match i with
    | 0 | 1 => rfl
    | i + 2 => rfl
  obtain ⟨A8, c8, w8, hrun, g1, g2, g3⟩ := run_append_items (P := Try.prog) 22 ty i0 _ 40 Try.underlying22 hi hz0 hz1 hz2 rfl (by decide) h (nm, d) (by simp [encTag]) hr (by simp [encTag, Value.oneCell']) hd ho (by unfold maxLen; omega) (by omega) hz
  exact ⟨_, w8, hrun, A8, c8, rfl, g1, g3⟩
set_option maxRecDepth 100000 in
set_option maxHeartbeats 4000000 in
theorem decode_any28 (A : Option Addr) (m c : Nat) (b : List UInt8) (w : World) (hb : Bytes w A m c b) :
    Calls Try.prog 33 #[.slice A m c] w fun e w' => ∃ A' m' c', e = .returned (.tuple #[.slice A' m' c', .int .i64 (decR b).2]) ∧ TagL w' A' m' c' (decR b).1 ∧ Below w.heap.size w w' := by
  have hle := hb.le
  have hcap := hb.cap
  have HL := Lib.hid hb.len
  have HB := Lib.hid hb
  clear hb
  by_cases h20 : 2048 < m
  ·
    have q1 : (2048 : Int) < (m : Int) := by omega
    have HE := Lib.hid (decR_long HL.out h20)
    go_enter Try.func33, Try.ntmps33
    go_wp2
    go_returns
    exact ⟨none, 0, 0, by rw [HE.out]; rfl, by rw [HE.out]; exact TagL.nil _, Below.refl _ _⟩
  have q1 : ¬ (2048 : Int) < (m : Int) := by omega
  by_cases h4 : m < 4
  ·
    have q2 : (m : Int) < 4 := by omega
    have HE := Lib.hid (decR_short HL.out (by omega) h4)
    go_enter Try.func33, Try.ntmps33
    go_wp2
    go_returns
    exact ⟨none, 0, 0, by rw [HE.out]; rfl, by rw [HE.out]; exact TagL.nil _, Below.refl _ _⟩
  have q2 : ¬ (m : Int) < 4 := by omega
  go_enter Try.func33, Try.ntmps33
  go_wp2_with fail
  refine (number0_any _ _ _ b _ HB.out (by omega) (by omega)).mono ?_
  rintro e q_ ⟨rfl, rfl⟩
  obtain ⟨n, hn⟩ : ∃ n, numT b 0 = n := ⟨_, rfl⟩
  have HN := Lib.hid hn
  rw [hn]
  clear hn
  by_cases hn1 : n < 1
  ·
    have q3 : (n : Int) < 1 := by omega
    have HE := Lib.hid (decR_limit HL.out (by omega) (by omega) HN.out (.inl hn1))
    go_wp2
    go_returns
    exact ⟨none, 0, 0, by rw [HE.out]; rfl, by rw [HE.out]; exact TagL.nil _, Below.refl _ _⟩
  have q3 : ¬ (n : Int) < 1 := by omega
  by_cases hn16 : 16 < n
  ·
    have q4 : (16 : Int) < (n : Int) := by omega
    have HE := Lib.hid (decR_limit HL.out (by omega) (by omega) HN.out (.inr hn16))
    go_wp2
    go_returns
    exact ⟨none, 0, 0, by rw [HE.out]; rfl, by rw [HE.out]; exact TagL.nil _, Below.refl _ _⟩
  have q4 : ¬ (16 : Int) < (n : Int) := by omega
  obtain ⟨q, hq⟩ : ∃ q, 8 * n = q := ⟨_, rfl⟩
  have hqi : (8 : Int) * (n : Int) = (q : Int) := by omega
  have HQ := Lib.hid hq
  by_cases hs2 : m < q
  ·
    have q5 : (m : Int) < (q : Int) := by omega
    have HE := Lib.hid (decR_short2 HL.out (by omega) (by omega) HN.out (by omega) (by omega) (by omega))
    clear hq
    go_wp2
    go_returns
    exact ⟨none, 0, 0, by rw [HE.out]; rfl, by rw [HE.out]; exact TagL.nil _, Below.refl _ _⟩
  have q5 : ¬ (m : Int) < (q : Int) := by omega
  obtain ⟨S, hS⟩ : ∃ S, m - q = S := ⟨_, rfl⟩
  have HS : Hid (m = 8 * n + S) := by rw [Hid]; omega
  have hS9 : S ≤ 2048 := by omega
  have hq8 : q ≤ 128 := by omega
  have VD := Lib.hid (HB.out.cutFrom q (by omega) (d := S) (k := c - q) hS rfl)
  have s1 := run_cutFrom und_bytes size_byte (A := A) (n := m) (c := c) (q : Int) q S (c - q) rfl (by omega) hS rfl
  clear hq hS
  go_wp2_with fail
  refine (places_any28 _ _ _ n S b _ HB.out (by omega) (by omega) (by omega) (by have := HQ.out; omega) (by omega)).mono ?_
  rintro e y1 ⟨PA, pm, pc, ok, rfl, hok, hpl, hb⟩
  have hbx : Below w.heap.size w y1 := below_via (by go_grown) hb (by first | (simp; done) | (simp; omega))
  have HB := Lib.hid (HB.out.stays hbx)
  have VD := Lib.hid (VD.out.stays hbx)
  have R2 := Lib.hid hbx
  have hz_y1 := R2.out.size
  clear hb hbx 
  have HOK := Lib.hid hok
  cases ok with
  | false =>
    have HE := Lib.hid (decR_form HL.out (by omega) (by omega) HN.out (by omega) (by omega) HS.out (fun q => by have := HOK.out.2 q; cases this))
    clear hok hpl
    go_wp2
    go_returns
    exact ⟨none, 0, 0, by rw [HE.out]; rfl, by rw [HE.out]; exact TagL.nil _, R2.out⟩
  | true =>
    obtain ⟨rfl, hpl⟩ := hpl rfl
    have VP := Lib.hid hpl
    have HO1 := Lib.hid (HOK.out.1 rfl).1
    have HS4 := Lib.hid (HOK.out.1 rfl).2
    have p1 := hpl.2.1
    have p2 : pc ≤ 9223372036854775807 := by have := hpl.2.2.1; unfold maxLen at this; exact this
    clear hok hpl HOK
    go_wp2_with fail
    go_loopw [8, 50] (fun so i wr => ∃ (k co : Nat) (AO : Option Addr), k ≤ n ∧ i = .int .i64 k ∧ so = .slice AO k co ∧ Hid (TagsA wr y1.heap.size AO k co (tagsB b n S k)) ∧ Below y1.heap.size y1 wr) (fun _ i _ => n - (intOf i).toNat)
    case atStart => exact ⟨0, 0, none, Nat.zero_le _, rfl, rfl, OwnItems.nil _ _, Below.refl _ _⟩
    case round =>
      obtain ⟨k, co, AO, hk, rfl, rfl, HO, hbr⟩ := hrel
      have RW := Lib.hid hbr
      have hz_wr := hbr.size
      have o1 := HO.out.le
      have o2 := HO.out.cap
      by_cases hkn : k < n
      ·
        have hki : (k : Int) < (n : Int) := by omega
        have HNX := Lib.hid (tagsB_next b n S k)
        have HAT := Lib.hid (atB_le HO1.out HS4.out hkn)
        obtain ⟨ni, hni⟩ : ∃ ni, n + k = ni := ⟨_, rfl⟩
        have hnii : (n : Int) + (k : Int) = (ni : Int) := by omega
        obtain ⟨q4, hq4⟩ : ∃ q4, 4 * ni = q4 := ⟨_, rfl⟩
        have hq4i : (4 : Int) * (ni : Int) = (q4 : Int) := by omega
        have hq4m : q4 + 4 ≤ m := by have := HQ.out; have := HS.out; omega
        have hq4n : (0 : Int) ≤ (q4 : Int) := by omega
        have VC := Lib.hid ((HB.out.stays hbr).cutS q4 (q4 + 4) (by omega) hq4m (d := 4) (k := c - q4) (by omega) rfl)
        have s2 := run_cut und_bytes size_byte (A := A) (n := m) (c := c) (q4 : Int) ((q4 : Int) + 4) q4 (q4 + 4) 4 (c - q4) rfl (by omega) (by omega) (by omega) (by omega) rfl
        have e1 := conv_str (P := Try.prog) VC.out 28 9 5 Try.underlying28 Try.underlying5 Try.underlying9
        obtain ⟨nm, hnm⟩ : ∃ nm, strOf ((b.drop q4).take 4) = nm := ⟨_, rfl⟩
        rw [hnm] at e1
        have HNM : Hid (nmB b n k = nm) := by rw [Hid, nmB, hni, hq4]; exact hnm
        have hq4w : q4 ≤ 100000 := by omega
        clear hnm hni hq4
        obtain ⟨a1, ha1⟩ : ∃ a1, atB b n S k = a1 := ⟨_, rfl⟩
        have e2 := allB_at b (S := S) (show k ≤ n by omega)
        obtain ⟨k1, hk1⟩ : ∃ k1, k + 1 = k1 := ⟨_, rfl⟩
        have hk1i : (k : Int) + 1 = (k1 : Int) := by omega
        have hk1w : IntKind.i64.wrap (k1 : Int) = (k1 : Int) := IntWalk.i64_in _ (by omega)
        have hk1n : (k1 : Int) < (n : Int) + 1 := by omega
        have e3 := allB_at b (S := S) (show k + 1 ≤ n by omega)
        rw [hk1] at e3 HAT
        obtain ⟨a2, ha2⟩ : ∃ a2, atB b n S k1 = a2 := ⟨_, rfl⟩
        have hdt : dtB b n S k = ((b.drop q).drop a1).take (a2 - a1) := by rw [dtB, hk1, ha1, ha2, HQ.out]
        have HDT := Lib.hid hdt
        rw [ha1] at e2 HAT
        rw [ha2] at e3 HAT
        have hat := HAT.out
        have t1 : a1 ≤ a2 := hat.1
        have t2 : a2 ≤ S := hat.2.1
        obtain ⟨g, o, hPA, hc1⟩ := (VP.out.stays hbr).at_ e2
        subst hPA
        obtain ⟨g2, o2, hPA2, hc2⟩ := (VP.out.stays hbr).at_ e3
        simp only [Option.some.injEq, Addr.mk.injEq] at hPA2
        obtain ⟨rfl, rfl, _⟩ := hPA2
        obtain ⟨g0, o0, hPA0, hd1⟩ := VP.out.at_ e2
        simp only [Option.some.injEq, Addr.mk.injEq] at hPA0
        obtain ⟨rfl, rfl, _⟩ := hPA0
        obtain ⟨g0, o0, hPA0, hd2⟩ := VP.out.at_ e3
        simp only [Option.some.injEq, Addr.mk.injEq] at hPA0
        obtain ⟨rfl, rfl, _⟩ := hPA0
        have HC1 := Lib.hid hd1
        have HC2 := Lib.hid hd2
        obtain ⟨dd, hdd⟩ : ∃ dd, a2 - a1 = dd := ⟨_, rfl⟩
        rw [hdd] at HDT
        have VE := Lib.hid (VD.out.cutS a1 a2 t1 t2 (d := dd) (k := c - q - a1) hdd rfl)
        obtain ⟨cd, hcd⟩ : ∃ cd, c - q = cd := ⟨_, rfl⟩
        rw [hcd] at VE
        have s3 := run_cut und_bytes size_byte (A := cutA A c q) (n := S) (c := cd) (a1 : Int) (a2 : Int) a1 a2 dd (cd - a1) rfl rfl t1 (by have := HS.out; have := HQ.out; omega) hdd rfl
        have hdd9 : dd ≤ 2048 := by omega
        rw [hcd]
        have h1n : (k : Int) < (n : Int) + 1 := by omega
        have ht12 : (a1 : Int) ≤ (a2 : Int) := by omega
        clear hdt ha1 ha2 e2 e3 hat hc1 hc2 hd1 hd2 hdd hcd HAT VC hk1
        go_upto_region 19 with fail
        refine zBegin (Z := []) (S := fun w' => Below y1.heap.size y1 w') (by kernel_rfl) ?pz1 (RW.out.drew) (fun hPQ wd hbd hHeld => ?sz1)
        case pz1 => (repeat (with_reducible first | refine PQ.then ?_ | refine PQ.block ?_)); exact fun _ _ d _ _ h => by cases d <;> exact h
        case sz1 =>
          have HO := HO.out.stays hbd
          clear hbd e1
          refine zVal (i := 0) (d := (some 65)) (v := ?_) rfl rfl (by kernel_rfl) (by kernel_rfl) (by kernel_rfl) (by kernel_rfl) hPQ (by rfl) (fun wq hSw => ?_) hHeld ?_
          rotate_left 1
          · have cS1 := cell_stays hSw HC1.out; have cS2 := cell_stays hSw HC2.out; go_simp; try with_reducible rfl
          try simp only [Act.put, List.setIfInBounds_toArray, List.set_cons_zero, List.set_cons_succ]
          refine zVal (i := 1) (d := (some 66)) (v := ?_) rfl rfl (by kernel_rfl) (by kernel_rfl) (by kernel_rfl) (by kernel_rfl) hPQ (by rfl) (fun wq hSw => ?_) hHeld ?_
          rotate_left 1
          · have cS1 := cell_stays hSw HC1.out; have cS2 := cell_stays hSw HC2.out; go_simp; try with_reducible rfl
          try simp only [Act.put, List.setIfInBounds_toArray, List.set_cons_zero, List.set_cons_succ]
          refine zVal (i := 2) (d := (some 67)) (v := ?_) rfl rfl (by kernel_rfl) (by kernel_rfl) (by kernel_rfl) (by kernel_rfl) hPQ (by rfl) (fun wq hSw => ?_) hHeld ?_
          rotate_left 1
          · have cS1 := cell_stays hSw HC1.out; have cS2 := cell_stays hSw HC2.out; go_simp; try with_reducible rfl
          try simp only [Act.put, List.setIfInBounds_toArray, List.set_cons_zero, List.set_cons_succ]
          refine zVal (i := 3) (d := (some 68)) (v := ?_) rfl rfl (by kernel_rfl) (by kernel_rfl) (by kernel_rfl) (by kernel_rfl) hPQ (by rfl) (fun wq hSw => ?_) hHeld ?_
          rotate_left 1
          · have cS1 := cell_stays hSw HC1.out; have cS2 := cell_stays hSw HC2.out; go_simp; try with_reducible rfl
          try simp only [Act.put, List.setIfInBounds_toArray, List.set_cons_zero, List.set_cons_succ]
          refine zVal (i := 4) (d := (some 69)) (v := ?_) rfl rfl (by kernel_rfl) (by kernel_rfl) (by kernel_rfl) (by kernel_rfl) hPQ (by rfl) (fun wq hSw => ?_) hHeld ?_
          rotate_left 1
          · have cS1 := cell_stays hSw HC1.out; have cS2 := cell_stays hSw HC2.out; go_simp; try with_reducible rfl
          try simp only [Act.put, List.setIfInBounds_toArray, List.set_cons_zero, List.set_cons_succ]
          refine zVal (i := 5) (d := (some 70)) (v := ?_) rfl rfl (by kernel_rfl) (by kernel_rfl) (by kernel_rfl) (by kernel_rfl) hPQ (by rfl) (fun wq hSw => ?_) hHeld ?_
          rotate_left 1
          · have cS1 := cell_stays hSw HC1.out; have cS2 := cell_stays hSw HC2.out; go_simp; try with_reducible rfl
          try simp only [Act.put, List.setIfInBounds_toArray, List.set_cons_zero, List.set_cons_succ]
          refine zVal (i := 6) (d := (some 71)) (v := ?_) rfl rfl (by kernel_rfl) (by kernel_rfl) (by kernel_rfl) (by kernel_rfl) hPQ (by rfl) (fun wq hSw => ?_) hHeld ?_
          rotate_left 1
          · have cS1 := cell_stays hSw HC1.out; have cS2 := cell_stays hSw HC2.out; go_simp; try with_reducible rfl
          try simp only [Act.put, List.setIfInBounds_toArray, List.set_cons_zero, List.set_cons_succ]
          refine zVal (i := 7) (d := (some 72)) (v := ?_) rfl rfl (by kernel_rfl) (by kernel_rfl) (by kernel_rfl) (by kernel_rfl) hPQ (by rfl) (fun wq hSw => ?_) hHeld ?_
          rotate_left 1
          · have cS1 := cell_stays hSw HC1.out; have cS2 := cell_stays hSw HC2.out; go_simp; try with_reducible rfl
          try simp only [Act.put, List.setIfInBounds_toArray, List.set_cons_zero, List.set_cons_succ]
          refine zVal (i := 8) (d := (some 73)) (v := ?_) rfl rfl (by kernel_rfl) (by kernel_rfl) (by kernel_rfl) (by kernel_rfl) hPQ (by rfl) (fun wq hSw => ?_) hHeld ?_
          rotate_left 1
          · have cS1 := cell_stays hSw HC1.out; have cS2 := cell_stays hSw HC2.out; go_simp; try with_reducible rfl
          try simp only [Act.put, List.setIfInBounds_toArray, List.set_cons_zero, List.set_cons_succ]
          refine zVal (i := 9) (d := (some 74)) (v := ?_) rfl rfl (by kernel_rfl) (by kernel_rfl) (by kernel_rfl) (by kernel_rfl) hPQ (by rfl) (fun wq hSw => ?_) hHeld ?_
          rotate_left 1
          · have cS1 := cell_stays hSw HC1.out; have cS2 := cell_stays hSw HC2.out; go_simp; try with_reducible rfl
          try simp only [Act.put, List.setIfInBounds_toArray, List.set_cons_zero, List.set_cons_succ]
          refine zVal (i := 10) (d := (some 75)) (v := ?_) rfl rfl (by kernel_rfl) (by kernel_rfl) (by kernel_rfl) (by kernel_rfl) hPQ (by rfl) (fun wq hSw => ?_) hHeld ?_
          rotate_left 1
          · have cS1 := cell_stays hSw HC1.out; have cS2 := cell_stays hSw HC2.out; go_simp; try with_reducible rfl
          try simp only [Act.put, List.setIfInBounds_toArray, List.set_cons_zero, List.set_cons_succ]
          refine zVal (i := 11) (d := (some 76)) (v := ?_) rfl rfl (by kernel_rfl) (by kernel_rfl) (by kernel_rfl) (by kernel_rfl) hPQ (by rfl) (fun wq hSw => ?_) hHeld ?_
          rotate_left 1
          · have cS1 := cell_stays hSw HC1.out; have cS2 := cell_stays hSw HC2.out; go_simp; try with_reducible rfl
          try simp only [Act.put, List.setIfInBounds_toArray, List.set_cons_zero, List.set_cons_succ]
          refine zVal (i := 12) (d := (some 77)) (v := ?_) rfl rfl (by kernel_rfl) (by kernel_rfl) (by kernel_rfl) (by kernel_rfl) hPQ (by rfl) (fun wq hSw => ?_) hHeld ?_
          rotate_left 1
          · have cS1 := cell_stays hSw HC1.out; have cS2 := cell_stays hSw HC2.out; go_simp; try with_reducible rfl
          try simp only [Act.put, List.setIfInBounds_toArray, List.set_cons_zero, List.set_cons_succ]
          refine zAlone (j := 13) (by kernel_rfl) ?_
          refine zOpCall (j := 13) (d := (some 78)) (R := fun v w' => ∃ Ap cp, v = .slice Ap dd cp ∧ w'.ownsRow wd.heap.size 5 1 (.slice Ap dd cp) dd ((((b.drop q).drop a1).take dd).map byteV) ∧ Below wd.heap.size wd w') rfl rfl (by rfl) ?rz2 ((bclone_any _ _ _ _ _ (VE.out.stays hHeld) (by omega)).mono fun e q hq => by obtain ⟨Ap, cp, h1, h2, h3⟩ := hq; exact ⟨_, h1, Ap, cp, rfl, h2, h3⟩) (fun v u1 hRv => ?tz2)
          case rz2 => go_simp
          case tz2 =>
            obtain ⟨AD, cD, rfl, hD, hb1⟩ := hRv
            refine ⟨.inr (hHeld.trans (hb1.mono hHeld.size)), ?_⟩
            try simp only [Act.put, List.setIfInBounds_toArray, List.set_cons_zero, List.set_cons_succ]
            have HOF : Off AD dd (Value.slice AO k co).ownBlock := Off.fresh (Fresh.own hD) HO.lt
            have HO := HO.stays hb1
            have hHeld := hHeld.trans (hb1.mono hHeld.size)
            have hDB : Bytes u1 AD dd cD (((b.drop q).drop a1).take dd) := own_rd hD
            rw [← HDT.out] at hDB
            clear hb1 hD
            refine zVal (i := 14) (d := (some 79)) (v := ?_) rfl rfl (by kernel_rfl) (by kernel_rfl) (by kernel_rfl) (by kernel_rfl) hPQ (by rfl) (fun wq hSw => ?_) hHeld ?_
            rotate_left 1
            · have cS1 := cell_stays hSw HC1.out; have cS2 := cell_stays hSw HC2.out; go_simp; try with_reducible rfl
            try simp only [Act.put, List.setIfInBounds_toArray, List.set_cons_zero, List.set_cons_succ]
            refine zAlone (j := 15) (by kernel_rfl) ?_
            refine zOpNew (j := 15) (d := (some 80)) (T := 60) (z := #[.string nm, .slice AD dd cD]) (val := fun g => .slice (some ⟨g, 0, none⟩) 1 1) rfl rfl (by rfl) ?rz3 (fun gf u2 gf_ge gf_lt BF hb2 => ⟨.inr (hHeld.trans (hb2.mono hHeld.size)), ?tz3⟩)
            case rz3 => go_simp; try with_reducible rfl
            case tz3 =>
              try simp only [Act.put, List.setIfInBounds_toArray, List.set_cons_zero, List.set_cons_succ]
              have HO := HO.stays hb2
              have hDB := hDB.stays hb2
              have hHeld := hHeld.trans (hb2.mono hHeld.size)
              refine zAlone (j := 16) (by kernel_rfl) ?_
              refine zOpApp (j := 16) (d := (some 81)) (R := fun v w' => ∃ A8 c8, v = .slice A8 (k + 1) c8 ∧ TagsA w' y1.heap.size A8 (k + 1) c8 (tagsB b n S k ++ [(nm, dtB b n S k)]) ∧ Below y1.heap.size u2 w') rfl rfl (by rfl) rfl (by rfl) (by rfl) (tags_app HO BF hDB HOF (by omega) hHeld.size _) (fun v u3 hRv => ?tz4)
              case tz4 =>
                obtain ⟨A8, c8, rfl, HO8, hb3⟩ := hRv
                refine ⟨.inr (hHeld.trans hb3), ?_⟩
                try simp only [Act.put, List.setIfInBounds_toArray, List.set_cons_zero, List.set_cons_succ]
                have R3 := hHeld.trans hb3
                have O3 : Hid (TagsA u3 y1.heap.size A8 (k + 1) c8 (tagsB b n S (k + 1))) := by rw [Hid, HNX.out, HNM.out]; exact HO8
                clear hb3 HO8 hHeld hDB
                have hHeld := R3
                refine zVal (i := 17) (d := (some 8)) (v := ?_) rfl rfl (by kernel_rfl) (by kernel_rfl) (by kernel_rfl) (by kernel_rfl) hPQ (by rfl) (fun wq hSw => ?_) hHeld ?_
                rotate_left 1
                · have cS1 := cell_stays hSw HC1.out; have cS2 := cell_stays hSw HC2.out; go_simp; try with_reducible rfl
                try simp only [Act.put, List.setIfInBounds_toArray, List.set_cons_zero, List.set_cons_succ]
                refine zDone (by kernel_rfl) ?_ _
                clear hHeld
                go_wp2
                go_roundw
                case rel => exact ⟨k + 1, c8, A8, by omega, by go_num, rfl, O3, R3⟩
                case measure => simp [intOf]; omega
      obtain rfl : k = n := by omega
      clear hkn hbr
      obtain ⟨fe, hfe⟩ : ∃ fe, firstErr (tagsB b k S k) k = fe := ⟨_, rfl⟩
      have HFE := Lib.hid hfe
      clear hfe
      go_wp2_with fail
      refine (check_any28 _ _ _ _ _ HO.out.tags).mono ?_
      rintro e y3 ⟨rfl, hb⟩
      have hbx : Below wr.heap.size wr y3 := below_via (by go_grown) hb (by first | (simp; done) | (simp; omega))
      have HO := Lib.hid (HO.out.stays hbx)
      have R4 := Lib.hid (RW.out.trans (hbx.mono hz_wr))
      have hz_y3 := R4.out.size
      clear hb hbx  RW hz_wr
      rw [HFE.out]
      by_cases hz : fe = 0
      case neg =>
        have z1 : (fe == 0) = false := by simpa using hz
        have z2 : (fe != 0) = true := by simp [bne, z1]
        have HE := Lib.hid (decR_err HL.out (by omega) (by omega) HN.out (by omega) (by omega) HS.out HO1.out HS4.out HFE.out hz)
        go_wp2
        go_returns
        exact ⟨none, 0, 0, by rw [HE.out]; rfl, by rw [HE.out]; exact TagL.nil _, R2.out.trans (R4.out.mono R2.out.size)⟩
      subst hz
      have HE := Lib.hid (decR_ok HL.out (by omega) (by omega) HN.out (by omega) (by omega) HS.out HO1.out HS4.out HFE.out)
      go_wp2
      go_returns
      exact ⟨AO, k, co, by rw [HE.out]; rfl, by rw [HE.out]; exact HO.out.tags, R2.out.trans (R4.out.mono R2.out.size)⟩
end Go.Proofs.Ytbjmojajhkhekaa
