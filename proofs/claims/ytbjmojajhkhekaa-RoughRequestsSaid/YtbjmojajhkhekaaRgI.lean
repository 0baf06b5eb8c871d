/- Coarse-time messages: requests and their nonces; known and light of the statements. -/
import Derived.Test.YtbjmojajhkhekaaRgH
import Derived.Test.YtbjmojajhkhekaaEqB
namespace Go.Proofs.Ytbjmojajhkhekaa
open Go Go.RowKit

def nmNONC : ByteArray := ⟨#[78, 79, 78, 67]⟩
def nmPADS : ByteArray := ⟨#[80, 65, 68, 83]⟩
def zArr : Array Value := madeCells #[.int .u8 0] 2000
theorem zeros28 (n : Nat) : madeCells #[Value.int .u8 0] n = ((List.replicate n (0 : UInt8)).map byteV).toArray := by
  apply Array.toList_inj.mp
  rw [toList_madeCells_one]; simp [byteV]
theorem zArr_eq : zArr = ((List.replicate 2000 (0 : UInt8)).map byteV).toArray := zeros28 2000
theorem make2000 (W : World) : (Instr.makeSlice 28 (.int .i64 2000) (.int .i64 2000)).run Try.prog W = .ok (.slice (some ⟨W.heap.size, 0, none⟩) 2000 2000) (W.alloc (.cells zArr 5)) := make_bytes 2000 (by decide) W
def padZ28 : List UInt8 := List.replicate 2000 0
theorem padZ28_len : padZ28.length = 2000 := List.length_replicate
/-- The tags of a request. -/
def rqT (n : List UInt8) : Tags := [(nmNONC, n), (nmPADS, padZ28)]
theorem rqT_few (n : List UInt8) (h : n.length ≤ 100000) (k : Nat) : (tgD (rqT n) k).length ≤ 100000 := by
  match k with
  | 0 => simpa [tgD, rqT] using h
  | 1 => simp [tgD, rqT, padZ28_len]
  | k + 2 => simp [tgD, rqT]
/-- Request. -/
def reqR (n : List UInt8) : List UInt8 × Int := if n.length ≠ 32 then ([], 3) else encR (rqT n)
theorem rq_tags {w : World} {A : Option Addr} {n c : Nat} {l : List UInt8} (h : Bytes w A n c l) : TagL ((w.alloc (.cells zArr 5)).alloc (.cells #[.string nmNONC, .slice A n c, .string nmPADS, .slice (some ⟨w.heap.size, 0, none⟩) 2000 2000] 60)) (some ⟨w.heap.size + 1, 0, none⟩) 2 2 (rqT l) := by
  have hz : Bytes (w.alloc (.cells zArr 5)) (some ⟨w.heap.size, 0, none⟩) 2000 2000 padZ28 := by
    have := Bytes.made (w := w) (l := padZ28) (E := 5) (by rw [padZ28_len]; decide)
    rw [padZ28_len] at this
    rw [zArr_eq]
    exact this
  refine ⟨[.string nmNONC, .slice A n c, .string nmPADS, .slice (some ⟨w.heap.size, 0, none⟩) 2000 2000], ⟨rfl, Nat.le_refl _, by decide, fun i u hu => ⟨_, _, rfl, ?_⟩⟩, rfl, fun i f hf => ?_⟩
  · rw [World.cell?_alloc_at _ _ _ _ (by simp), Nat.zero_add]; simpa using hu
  · match i, hf with
    | 0, hf => simp [rqT] at hf; subst hf; exact ⟨_, _, _, rfl, rfl, h.stays (((Below.refl _ _).alloc (Nat.le_refl _) _).alloc (by simp) _)⟩
    | 1, hf => simp [rqT] at hf; subst hf; exact ⟨_, _, _, rfl, rfl, hz.stays ((Below.refl _ _).alloc (Nat.le_refl _) _)⟩
    | i + 2, hf => simp [rqT] at hf
set_option maxRecDepth 100000 in
set_option maxHeartbeats 4000000 in
theorem request_any (A : Option Addr) (n c : Nat) (l : List UInt8) (w : World) (hb : Bytes w A n c l) :
    Calls Try.prog 41 #[.slice A n c] w fun e w' => ∃ A' m c', e = .returned (.tuple #[.slice A' m c', .int .i64 (reqR l).2]) ∧ Bytes w' A' m c' (reqR l).1 ∧ Below w.heap.size w w' := by
  have hle := hb.le
  have hcap := hb.cap
  have HL := Lib.hid hb.len
  have HB := Lib.hid hb
  by_cases h32 : n = 32
  case neg =>
    have q1 : ¬ (n : Int) = 32 := by omega
    have q2 : ((n : Int) != 32) = true := by simpa [bne] using q1
    have HE : Hid (reqR l = ([], 3)) := by rw [Hid, reqR, if_pos (by rw [HL.out]; exact h32)]
    clear h32 hb
    go_enter Try.func41, Try.ntmps41
    go_wp2
    go_returns
    exact ⟨none, 0, 0, by rw [HE.out]; rfl, by rw [HE.out]; exact Rd.nil _ _ _ (by decide) _, Below.refl _ _⟩
  subst h32
  have HE : Hid (reqR l = encR (rqT l)) := by rw [Hid, reqR, if_neg (by rw [HL.out]; decide)]
  have HT := Lib.hid (rq_tags hb)
  have HF := Lib.hid (rqT_few l (by rw [HL.out]; decide))
  have hmk := make2000 w
  clear hb
  go_enter Try.func41, Try.ntmps41
  go_wp2_with fail
  refine (encode_any28 _ _ _ _ _ HT.out HF.out).mono ?_
  rintro e y1 ⟨Ar, m, cr, rfl, h1, hb⟩
  have hbx : Below w.heap.size w y1 := below_via (by go_grown) hb (by first | (simp; done) | (simp; omega))
  have VR := Lib.hid h1
  have R2 := Lib.hid hbx
  have hz_y1 := R2.out.size
  clear hb hbx h1
  go_wp2
  go_returns
  exact ⟨Ar, m, cr, by rw [HE.out]; rfl, by rw [HE.out]; exact VR.out, R2.out⟩
set_option maxRecDepth 100000 in
set_option maxHeartbeats 4000000 in
theorem refRequest_any (A : Option Addr) (n c : Nat) (l : List UInt8) (w : World) (hb : Bytes w A n c l) :
    Calls Try.prog 68 #[.slice A n c] w fun e w' => ∃ A' m c', e = .returned (.tuple #[.slice A' m c', .int .i64 (reqR l).2]) ∧ Bytes w' A' m c' (reqR l).1 ∧ Below w.heap.size w w' := by
  have hle := hb.le
  have hcap := hb.cap
  have HL := Lib.hid hb.len
  have HB := Lib.hid hb
  by_cases h32 : n = 32
  case neg =>
    have q1 : ¬ (n : Int) = 32 := by omega
    have q2 : ((n : Int) != 32) = true := by simpa [bne] using q1
    have HE : Hid (reqR l = ([], 3)) := by rw [Hid, reqR, if_pos (by rw [HL.out]; exact h32)]
    clear h32 hb
    go_enter Try.func68, Try.ntmps68
    go_wp2
    go_returns
    exact ⟨none, 0, 0, by rw [HE.out]; rfl, by rw [HE.out]; exact Rd.nil _ _ _ (by decide) _, Below.refl _ _⟩
  subst h32
  have HE : Hid (reqR l = encR (rqT l)) := by rw [Hid, reqR, if_neg (by rw [HL.out]; decide)]
  have HT := Lib.hid (rq_tags hb)
  have HF := Lib.hid (rqT_few l (by rw [HL.out]; decide))
  have hmk := make2000 w
  clear hb
  go_enter Try.func68, Try.ntmps68
  go_wp2_with fail
  refine (refEncode_any28 _ _ _ _ _ HT.out HF.out).mono ?_
  rintro e y1 ⟨Ar, m, cr, rfl, h1, hb⟩
  have hbx : Below w.heap.size w y1 := below_via (by go_grown) hb (by first | (simp; done) | (simp; omega))
  have VR := Lib.hid h1
  have R2 := Lib.hid hbx
  have hz_y1 := R2.out.size
  clear hb hbx h1
  go_wp2
  go_returns
  exact ⟨Ar, m, cr, by rw [HE.out]; rfl, by rw [HE.out]; exact VR.out, R2.out⟩
theorem decR_few (b : List UInt8) (k : Nat) : (tgD (decR b).1 k).length ≤ 100000 := by
  have nil : (tgD ([] : Tags) k).length ≤ 100000 := by simp [tgD]
  by_cases h1 : 2048 < b.length
  · rw [decR_long rfl h1]; exact nil
  by_cases h2 : b.length < 4
  · rw [decR_short rfl (by omega) h2]; exact nil
  by_cases h3 : numT b 0 < 1 ∨ 16 < numT b 0
  · rw [decR_limit rfl (by omega) (by omega) rfl h3]; exact nil
  by_cases h4 : b.length < 8 * numT b 0
  · rw [decR_short2 rfl (by omega) (by omega) rfl (by omega) (by omega) h4]; exact nil
  by_cases h5 : okP b (b.length - 8 * numT b 0) (numT b 0) ∧ (b.length - 8 * numT b 0) % 4 = 0
  · by_cases h6 : firstErr (tagsB b (numT b 0) (b.length - 8 * numT b 0) (numT b 0)) (numT b 0) = 0
    · rw [decR_ok rfl (by omega) (by omega) rfl (by omega) (by omega) (by omega) h5.1 h5.2 h6]; exact tagsB_few b _ _ _ (by omega) k
    · rw [decR_err rfl (by omega) (by omega) rfl (by omega) (by omega) (by omega) h5.1 h5.2 rfl h6]; exact nil
  · rw [decR_form rfl (by omega) (by omega) rfl (by omega) (by omega) (by omega) h5]; exact nil
/-- The nonce of a request. -/
def nncR (b : List UInt8) : List UInt8 × Int := if (reqR (fndT (decR b).1 nmNONC).1).2 = 0 ∧ (reqR (fndT (decR b).1 nmNONC).1).1 = b then ((fndT (decR b).1 nmNONC).1, 0) else ([], 3)
set_option maxRecDepth 100000 in
set_option maxHeartbeats 4000000 in
theorem nonce_any (A : Option Addr) (n c : Nat) (l : List UInt8) (w : World) (hb : Bytes w A n c l) :
    Calls Try.prog 38 #[.slice A n c] w fun e w' => ∃ A' m c', e = .returned (.tuple #[.slice A' m c', .int .i64 (nncR l).2]) ∧ Bytes w' A' m c' (nncR l).1 ∧ Below w.heap.size w w' := by
  have HB := Lib.hid hb
  have HF := Lib.hid (decR_few l)
  clear hb
  go_enter Try.func38, Try.ntmps38
  obtain ⟨D, hD⟩ : ∃ D, decR l = D := ⟨_, rfl⟩
  have HD := Lib.hid hD
  rw [hD] at HF
  clear hD
  go_wp2_with fail
  refine (decode_any28 _ _ _ _ _ HB.out).mono ?_
  rintro e y1 ⟨DA, dn, dc, rfl, h1, hb⟩
  have hbx : Below w.heap.size w y1 := below_via (by go_grown) hb (by first | (simp; done) | (simp; omega))
  have HB := Lib.hid (HB.out.stays hbx)
  have VD := Lib.hid h1
  have R2 := Lib.hid hbx
  have hz_y1 := R2.out.size
  clear hb hbx h1
  rw [HD.out] at VD ⊢
  obtain ⟨G, hG⟩ : ∃ G, fndT D.1 nmNONC = G := ⟨_, rfl⟩
  have HG := Lib.hid hG
  clear hG
  go_wp2_with fail
  refine (find_any28 _ _ _ _ nmNONC _ VD.out HF.out).mono ?_
  rintro e y3 ⟨FA, fn, fc, rfl, h1, hb⟩
  have hbx : Below y1.heap.size y1 y3 := below_via (by go_grown) hb (by first | (simp; done) | (simp; omega))
  have HB := Lib.hid (HB.out.stays hbx)
  have VD := Lib.hid (VD.out.stays hbx)
  have VF := Lib.hid h1
  have R4 := Lib.hid (R2.out.trans (hbx.mono hz_y1))
  have hz_y3 := R4.out.size
  clear hb hbx h1 R2 hz_y1
  rw [HG.out] at VF ⊢
  obtain ⟨R, hR⟩ : ∃ R, reqR G.1 = R := ⟨_, rfl⟩
  have HR := Lib.hid hR
  clear hR
  go_wp2_with fail
  refine (request_any _ _ _ _ _ VF.out).mono ?_
  rintro e y5 ⟨RA, rn, rc, rfl, h1, hb⟩
  have hbx : Below y3.heap.size y3 y5 := below_via (by go_grown) hb (by first | (simp; done) | (simp; omega))
  have HB := Lib.hid (HB.out.stays hbx)
  have VD := Lib.hid (VD.out.stays hbx)
  have VF := Lib.hid (VF.out.stays hbx)
  have VR := Lib.hid h1
  have R6 := Lib.hid (R4.out.trans (hbx.mono hz_y3))
  have hz_y5 := R6.out.size
  clear hb hbx h1 R4 hz_y3
  rw [HR.out] at VR ⊢
  have HN : Hid (nncR l = if R.2 = 0 ∧ R.1 = l then (G.1, 0) else ([], 3)) := by rw [Hid, nncR, HD.out, HG.out, HR.out]
  obtain ⟨er, he⟩ : ∃ er, R.2 = er := ⟨_, rfl⟩
  rw [he] at HN ⊢
  clear he
  by_cases h0 : er = 0
  case neg =>
    have z1 : (er == 0) = false := by simpa using h0
    have z2 : (er != 0) = true := by simp [bne, z1]
    have HE : Hid (nncR l = ([], 3)) := by rw [Hid, HN.out, if_neg (fun q => h0 q.1)]
    go_wp2
    go_returns
    exact ⟨none, 0, 0, by rw [HE.out]; rfl, by rw [HE.out]; exact Rd.nil _ _ _ (by decide) _, R6.out⟩
  subst h0
  obtain ⟨q, hq⟩ : ∃ q, decide (R.1 = l) = q := ⟨_, rfl⟩
  have HQ := Lib.hid hq
  clear hq
  go_wp2_with fail
  refine (bytesEqual_any _ _ _ _ _ _ _ _ _ VR.out HB.out).mono ?_
  rintro e q_ ⟨rfl, rfl⟩
  rw [HQ.out]
  cases q with
  | false =>
    have HE : Hid (nncR l = ([], 3)) := by rw [Hid, HN.out, if_neg (fun q => of_decide_eq_false HQ.out q.2)]
    go_wp2
    go_returns
    exact ⟨none, 0, 0, by rw [HE.out]; rfl, by rw [HE.out]; exact Rd.nil _ _ _ (by decide) _, R6.out⟩
  | true =>
    have HE : Hid (nncR l = (G.1, 0)) := by rw [Hid, HN.out, if_pos ⟨by first | rfl | trivial, of_decide_eq_true HQ.out⟩]
    go_wp2
    go_returns
    exact ⟨FA, fn, fc, by rw [HE.out]; rfl, by rw [HE.out]; exact VF.out, R6.out⟩
set_option maxRecDepth 100000 in
set_option maxHeartbeats 4000000 in
theorem refNonce_any (A : Option Addr) (n c : Nat) (l : List UInt8) (w : World) (hb : Bytes w A n c l) :
    Calls Try.prog 39 #[.slice A n c] w fun e w' => ∃ A' m c', e = .returned (.tuple #[.slice A' m c', .int .i64 (nncR l).2]) ∧ Bytes w' A' m c' (nncR l).1 ∧ Below w.heap.size w w' := by
  have HB := Lib.hid hb
  have HF := Lib.hid (decR_few l)
  clear hb
  go_enter Try.func39, Try.ntmps39
  obtain ⟨D, hD⟩ : ∃ D, decR l = D := ⟨_, rfl⟩
  have HD := Lib.hid hD
  rw [hD] at HF
  clear hD
  go_wp2_with fail
  refine (refDecode_any28 _ _ _ _ _ HB.out).mono ?_
  rintro e y1 ⟨DA, dn, dc, rfl, h1, hb⟩
  have hbx : Below w.heap.size w y1 := below_via (by go_grown) hb (by first | (simp; done) | (simp; omega))
  have HB := Lib.hid (HB.out.stays hbx)
  have VD := Lib.hid h1
  have R2 := Lib.hid hbx
  have hz_y1 := R2.out.size
  clear hb hbx h1
  rw [HD.out] at VD ⊢
  obtain ⟨G, hG⟩ : ∃ G, fndT D.1 nmNONC = G := ⟨_, rfl⟩
  have HG := Lib.hid hG
  clear hG
  go_wp2_with fail
  refine (refFind_any28 _ _ _ _ nmNONC _ VD.out HF.out).mono ?_
  rintro e y3 ⟨FA, fn, fc, rfl, h1, hb⟩
  have hbx : Below y1.heap.size y1 y3 := below_via (by go_grown) hb (by first | (simp; done) | (simp; omega))
  have HB := Lib.hid (HB.out.stays hbx)
  have VD := Lib.hid (VD.out.stays hbx)
  have VF := Lib.hid h1
  have R4 := Lib.hid (R2.out.trans (hbx.mono hz_y1))
  have hz_y3 := R4.out.size
  clear hb hbx h1 R2 hz_y1
  rw [HG.out] at VF ⊢
  obtain ⟨R, hR⟩ : ∃ R, reqR G.1 = R := ⟨_, rfl⟩
  have HR := Lib.hid hR
  clear hR
  go_wp2_with fail
  refine (refRequest_any _ _ _ _ _ VF.out).mono ?_
  rintro e y5 ⟨RA, rn, rc, rfl, h1, hb⟩
  have hbx : Below y3.heap.size y3 y5 := below_via (by go_grown) hb (by first | (simp; done) | (simp; omega))
  have HB := Lib.hid (HB.out.stays hbx)
  have VD := Lib.hid (VD.out.stays hbx)
  have VF := Lib.hid (VF.out.stays hbx)
  have VR := Lib.hid h1
  have R6 := Lib.hid (R4.out.trans (hbx.mono hz_y3))
  have hz_y5 := R6.out.size
  clear hb hbx h1 R4 hz_y3
  rw [HR.out] at VR ⊢
  have HN : Hid (nncR l = if R.2 = 0 ∧ R.1 = l then (G.1, 0) else ([], 3)) := by rw [Hid, nncR, HD.out, HG.out, HR.out]
  obtain ⟨er, he⟩ : ∃ er, R.2 = er := ⟨_, rfl⟩
  rw [he] at HN ⊢
  clear he
  by_cases h0 : er = 0
  case neg =>
    have z1 : (er == 0) = false := by simpa using h0
    have z2 : (er != 0) = true := by simp [bne, z1]
    have HE : Hid (nncR l = ([], 3)) := by rw [Hid, HN.out, if_neg (fun q => h0 q.1)]
    go_wp2
    go_returns
    exact ⟨none, 0, 0, by rw [HE.out]; rfl, by rw [HE.out]; exact Rd.nil _ _ _ (by decide) _, R6.out⟩
  subst h0
  obtain ⟨q, hq⟩ : ∃ q, decide (R.1 = l) = q := ⟨_, rfl⟩
  have HQ := Lib.hid hq
  clear hq
  go_wp2_with fail
  refine (refSame_any _ _ _ _ _ _ _ _ _ VR.out HB.out).mono ?_
  rintro e q_ ⟨rfl, rfl⟩
  rw [HQ.out]
  cases q with
  | false =>
    have HE : Hid (nncR l = ([], 3)) := by rw [Hid, HN.out, if_neg (fun q => of_decide_eq_false HQ.out q.2)]
    go_wp2
    go_returns
    exact ⟨none, 0, 0, by rw [HE.out]; rfl, by rw [HE.out]; exact Rd.nil _ _ _ (by decide) _, R6.out⟩
  | true =>
    have HE : Hid (nncR l = (G.1, 0)) := by rw [Hid, HN.out, if_pos ⟨by first | rfl | trivial, of_decide_eq_true HQ.out⟩]
    go_wp2
    go_returns
    exact ⟨FA, fn, fc, by rw [HE.out]; rfl, by rw [HE.out]; exact VF.out, R6.out⟩
theorem bytes_lit28 {w : World} {E n : Nat} (l : List UInt8) (vs : Array Value) (hv : vs = (l.map byteV).toArray) (hn : l.length = n) (hm : n ≤ maxLen) : Bytes (w.alloc (.cells vs E)) (some ⟨w.heap.size, 0, none⟩) n n l := by
  subst hv hn; exact Bytes.made hm
def knT : Tags := [(⟨#[65, 65, 65, 65]⟩, [1, 2, 3, 4]), (⟨#[66, 66, 48, 49]⟩, [])]
theorem kn_tags (w : World) : TagL ((w.alloc (.cells #[.int .u8 1, .int .u8 2, .int .u8 3, .int .u8 4] 5)).alloc (.cells #[.string ⟨#[65, 65, 65, 65]⟩, .slice (some ⟨w.heap.size, 0, none⟩) 4 4, .string ⟨#[66, 66, 48, 49]⟩, .slice none 0 0] 60)) (some ⟨w.heap.size + 1, 0, none⟩) 2 2 knT := by
  refine ⟨[.string ⟨#[65, 65, 65, 65]⟩, .slice (some ⟨w.heap.size, 0, none⟩) 4 4, .string ⟨#[66, 66, 48, 49]⟩, .slice none 0 0], ⟨rfl, Nat.le_refl _, by decide, fun i u hu => ⟨_, _, rfl, ?_⟩⟩, rfl, fun i f hf => ?_⟩
  · rw [World.cell?_alloc_at _ _ _ _ (by simp), Nat.zero_add]; simpa using hu
  · match i, hf with
    | 0, hf => simp [knT] at hf; subst hf; exact ⟨_, _, _, rfl, rfl, (bytes_lit28 [1, 2, 3, 4] _ rfl (n := 4) rfl (by decide)).stays ((Below.refl _ _).alloc (Nat.le_refl _) _)⟩
    | 1, hf => simp [knT] at hf; subst hf; exact ⟨_, _, _, rfl, rfl, Rd.nil _ _ _ (by decide) _⟩
    | i + 2, hf => simp [knT] at hf
set_option maxRecDepth 100000 in
set_option maxHeartbeats 4000000 in
theorem rgKnown (w : World) : Calls Try.prog 14 #[] w fun e w' => e = .returned (.bool true) ∧ Below w.heap.size w w' := by
  have hE : encR knT = ([0, 0, 0, 2, 0, 0, 0, 4, 65, 65, 65, 65, 66, 66, 48, 49, 1, 2, 3, 4], 0) := by decide +kernel
  have HE := Lib.hid hE
  have HT := Lib.hid (fun (W : World) => kn_tags W)
  clear hE
  go_enter Try.func14, Try.ntmps14
  go_wp2_with fail
  refine (encode_any28 _ _ _ _ _ (HT.out _) (fun k => by match k with | 0 => simp [tgD, knT] | 1 => simp [tgD, knT] | k + 2 => simp [tgD, knT])).mono ?_
  rintro e y1 ⟨Ar, m, cr, rfl, h1, hb⟩
  have hbx : Below w.heap.size w y1 := below_via (by go_grown) hb (by first | (simp; done) | (simp; omega))
  have VR := Lib.hid h1
  have R2 := Lib.hid hbx
  have hz_y1 := R2.out.size
  clear hb hbx h1
  rw [HE.out] at VR ⊢
  have VL := Lib.hid (bytes_lit28 (w := y1) (E := 5) [0, 0, 0, 2, 0, 0, 0, 4, 65, 65, 65, 65, 66, 66, 48, 49, 1, 2, 3, 4] #[.int .u8 0, .int .u8 0, .int .u8 0, .int .u8 2, .int .u8 0, .int .u8 0, .int .u8 0, .int .u8 4, .int .u8 65, .int .u8 65, .int .u8 65, .int .u8 65, .int .u8 66, .int .u8 66, .int .u8 48, .int .u8 49, .int .u8 1, .int .u8 2, .int .u8 3, .int .u8 4] rfl (n := 20) rfl (by decide))
  have VR2 := Lib.hid (VR.out.stays (below_alloc1 y1 (.cells #[.int .u8 0, .int .u8 0, .int .u8 0, .int .u8 2, .int .u8 0, .int .u8 0, .int .u8 0, .int .u8 4, .int .u8 65, .int .u8 65, .int .u8 65, .int .u8 65, .int .u8 66, .int .u8 66, .int .u8 48, .int .u8 49, .int .u8 1, .int .u8 2, .int .u8 3, .int .u8 4] 5)))
  go_wp2_with fail
  refine (refSame_true VR2.out VL.out rfl).mono ?_
  rintro e q_ ⟨rfl, rfl⟩
  go_wp2
  go_ret
  exact ⟨rfl, R2.out.alloc hz_y1 _⟩
def PostLight (w : World) (n : Nat) (ts : Tags) (e : Ending) (w' : World) : Prop := ∃ q, e = .returned (.bool q) ∧ (q = true → n ≤ 20 ∧ ∀ k, (tgD ts k).length ≤ 600) ∧ Below w.heap.size w w'
set_option maxRecDepth 100000 in
set_option maxHeartbeats 4000000 in
theorem light_any28 (A : Option Addr) (n c : Nat) (ts : Tags) (w : World) (hv : TagL w A n c ts) :
    Calls Try.prog 13 #[.slice A n c] w (PostLight w n ts) := by
  have hcap := hv.cap
  have hle0 := hv.le
  have HL := Lib.hid hv.len
  have HV := Lib.hid hv
  clear hv
  by_cases hn : 20 < n
  ·
    have q1 : (20 : Int) < (n : Int) := by omega
    go_enter Try.func13, Try.ntmps13
    go_wp2
    go_ret
    exact ⟨false, rfl, (fun h => by cases h), Below.refl _ _⟩
  have q1 : ¬ (20 : Int) < (n : Int) := by omega
  go_enter Try.func13, Try.ntmps13
  go_wp2_with fail
  go_loopw [3] (fun i wr => ∃ k : Nat, k ≤ n ∧ i = .int .i64 k ∧ Hid (∀ j, j < k → (tgD ts j).length ≤ 600) ∧ Below w.heap.size w wr) (fun i _ => n - (intOf i).toNat)
  case atStart => exact ⟨0, Nat.zero_le _, rfl, (fun j hj => by omega), Below.refl _ _⟩
  case round =>
    obtain ⟨k, hk, rfl, HT, hbr⟩ := hrel
    have RW := Lib.hid hbr
    by_cases hkn : k < n
    ·
      have hki : (k : Int) < (n : Int) := by omega
      obtain ⟨bb, off, A', n', c', rfl, hc0, hc1, hy⟩ := (HV.out.stays hbr).at_ hkn
      have HYL := Lib.hid hy.len
      obtain ⟨nm, hnm⟩ : ∃ nm, tgN ts k = nm := ⟨_, rfl⟩
      rw [hnm] at hc0
      obtain ⟨z, hz⟩ : ∃ z, nm.size = z := ⟨_, rfl⟩
      have HZ := Lib.hid hz
      clear hy hbr hnm
      by_cases h20 : 20 < z
      ·
        have e1 : (20 : Int) < (z : Int) := by omega
        go_wp2
        go_ret
        exact ⟨false, rfl, (fun h => by cases h), RW.out⟩
      have e1 : ¬ (20 : Int) < (z : Int) := by omega
      by_cases h600 : 600 < n'
      ·
        have e2 : (600 : Int) < (n' : Int) := by omega
        go_wp2
        go_ret
        exact ⟨false, rfl, (fun h => by cases h), RW.out⟩
      have e2 : ¬ (600 : Int) < (n' : Int) := by omega
      have HS : Hid (∀ j, j < k + 1 → (tgD ts j).length ≤ 600) := fun j hj => by
        by_cases e : j = k
        · rw [e, HYL.out]; omega
        · exact HT.out j (by omega)
      go_wp2
      go_roundw
      case rel => exact ⟨k + 1, by omega, by go_num, HS, RW.out⟩
      case measure => simp [intOf]; omega
    obtain rfl : k = n := by omega
    go_wp2
    go_ret
    exact ⟨true, rfl, (fun _ => ⟨by omega, fun j => by
      by_cases h : j < k
      · exact HT.out j h
      · simp [tgD, List.getD, show ¬ j < ts.length by rw [HL.out]; exact h]⟩), RW.out⟩
end Go.Proofs.Ytbjmojajhkhekaa
