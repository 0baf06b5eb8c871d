/- Rows of fields that are appended; ExtensionJoins: the walk. -/
import Derived.Test.YtofadjcphaehcaaExtP
namespace Go.Proofs.Ytofadjcphaehcaa
open Go.RowKit

section
variable {α : Type} {sz : Nat} {enc : α → Option Addr → Nat → Nat → List Value} {dat : α → List UInt8}
theorem ItemsV.app {w : World} {bad : Option Nat} {vs us : List Value} {xs ys : List α} (h1 : ItemsV sz enc dat w bad vs xs) (h2 : ItemsV sz enc dat w bad us ys) : ItemsV sz enc dat w bad (vs ++ us) (xs ++ ys) := by
  refine ⟨by rw [List.length_append, h1.1, h2.1, List.length_append, Nat.add_mul], fun i y hy => ?_⟩
  by_cases hi : i < xs.length
  · rw [List.getElem?_append_left hi] at hy
    obtain ⟨A', n', c', e1, e2, e3⟩ := h1.2 i y hy
    refine ⟨A', n', c', fun k hk => ?_, e2, e3⟩
    have : i * sz + k < vs.length := by
      have e1 : (i + 1) * sz ≤ xs.length * sz := Nat.mul_le_mul_right _ hi
      rw [Nat.add_mul, Nat.one_mul] at e1
      rw [h1.1]; omega
    rw [List.getElem?_append_left this]
    exact e1 k hk
  · rw [List.getElem?_append_right (by omega)] at hy
    obtain ⟨A', n', c', e1, e2, e3⟩ := h2.2 _ y hy
    refine ⟨A', n', c', fun k hk => ?_, e2, e3⟩
    have hge : vs.length ≤ i * sz := by rw [h1.1]; exact Nat.mul_le_mul_right _ (by omega)
    rw [List.getElem?_append_right (by omega), ← e1 k hk]
    congr 1
    rw [h1.1, Nat.sub_mul]
    have : xs.length * sz ≤ i * sz := Nat.mul_le_mul_right _ (by omega)
    omega
end
theorem FldL.items {w : World} {A : Option Addr} {n c : Nat} {fs : List (Int × List UInt8)} (h : FldL w A n c fs) : ∃ vs, Rd w 2 A n c vs ∧ ItemsV 2 encFld Prod.snd w none vs fs ∧ ∀ u ∈ vs, u.oneCell' = true := by
  obtain ⟨vs, h1, h2, h3⟩ := h
  have hl : vs.length = fs.length * 2 := by rw [h2]; exact h1.1
  refine ⟨vs, h1, ⟨hl, fun i f hf => ?_⟩, fun u hu => ?_⟩
  · obtain ⟨A', n', c', e1, e2, e3⟩ := h3 i f hf
    refine ⟨A', n', c', fun k hk => ?_, e3, fun a _ _ e => by cases e⟩
    match k, hk with
    | 0, _ => simpa [encFld] using e1
    | 1, _ => simpa [encFld] using e2
  · obtain ⟨j, hj, rfl⟩ := List.mem_iff_getElem.1 hu
    have hjf : j / 2 < fs.length := by omega
    obtain ⟨A', n', c', e1, e2, _⟩ := h3 (j / 2) _ (List.getElem?_eq_getElem hjf)
    rcases Nat.mod_two_eq_zero_or_one j with hm | hm
    · rw [show j / 2 * 2 = j by omega, List.getElem?_eq_getElem hj] at e1
      injection e1 with e1
      rw [e1]; rfl
    · rw [show j / 2 * 2 + 1 = j by omega, List.getElem?_eq_getElem hj] at e2
      injection e2 with e2
      rw [e2]; rfl
theorem ItemsV.awayF {w : World} {bad : Option Nat} {vs : List Value} {fs : List (Int × List UInt8)} (h : ItemsV 2 encFld Prod.snd w none vs fs) (hb : ∀ k, bad = some k → w.heap.size ≤ k) : ItemsV 2 encFld Prod.snd w bad vs fs :=
  ⟨h.1, fun i x hx => by
    obtain ⟨A, n, c, h1, h2, _⟩ := h.2 i x hx
    exact ⟨A, n, c, h1, h2, fun a ha hn e => by have := h2.lt hn a ha; have := hb _ e; omega⟩⟩
theorem fld_lit (w : World) (B : Nat) (hB : B ≤ w.heap.size) : FldsA (w.alloc (.cells #[] 38)) B (some ⟨w.heap.size, 0, none⟩) 0 0 [] :=
  ⟨_, World.ownsRow_lit (base := B) (e := 38) (size := 2) w #[] 0 hB (by decide) rfl, ItemsV.nil _ _⟩
/-- A row of fields of the call's own takes further fields, whose bytes are older than it is. -/
theorem run_append_flds {w0 w : World} {A A2 : Option Addr} {n c m c2 B : Nat} {xs fs : List (Int × List UInt8)} (h0 : FldL w0 A2 m c2 fs) (hb0 : Below w0.heap.size w0 w) (hown : FldsA w B A n c xs) (hB : w0.heap.size ≤ B) (hn : n + m ≤ 1000) (hz : B ≤ w.heap.size) (ty : TypeId) :
    ∃ A' c' w', (Builtin.append_ #[32, 32] ty #[.slice A n c, .slice A2 m c2]).run Try.prog w = .ok (.slice A' (n + m) c') w' ∧ FldsA w' B A' (n + m) c' (xs ++ fs) ∧ w.grownBy w' (Value.slice A n c).ownBlock ∧ Below B w w' := by
  obtain ⟨i0, hi, hz0, hz1, hz2⟩ := info_parts infoFld
  obtain ⟨us, hr, hI, h1⟩ := h0.items
  obtain ⟨vs, hw, hv⟩ := hown
  obtain ⟨A', c', w', hrun, h2, h3, h4⟩ := run_append_rd (P := Try.prog) 32 ty i0 _ 32 Try.underlying32 hi hz0 hz1 hz2 rfl (by decide) hw (hr.stays hb0) h1 (by unfold maxLen; omega) (by omega) hz
  have hbb : Below B w w' := (Below.refl B w).grown h3 hz (fun k hk => (hw.lt k hk).1)
  refine ⟨A', c', w', hrun, ⟨_, h2, (hv.grew h3 h4).app ((hI.awayF (fun k hk => ?_)).stays (hb0.trans (hbb.mono hB)))⟩, h3, hbb⟩
  exact Nat.le_trans hB (h2.lt k hk).1
/-- An append whose run is known, guarded or not. -/
theorem wpList_append_g {P : Program} {ops : Array Oper} {rest : List Oper} {o : Oper} {a : Act} {w : World} {Q : Exit → Act → World → Prop} (hw : Region.wanted o (yielded ops a.tmps) = true) (s x : Operand) (t : TypeId)
    (ho : o.op = .call { callee := .builtin .append, args := #[s, x], argTypes := #[t, t] }) {vs vx : Value} (hs : a.eval s = vs) (hx : a.eval x = vx) {R : Value → World → Prop}
    (hr : ∃ v w', (Builtin.append_ #[t, t] o.type #[vs, vx]).run P w = .ok v w' ∧ R v w') (h : ∀ v w', R v w' → wpList P ops Q rest (a.put o.dst v) w') : wpList P ops Q (o :: rest) a w := by
  obtain ⟨v, w', hrun, hR⟩ := hr
  unfold wpList
  rw [if_pos hw]
  exact .inl (Lib.wp_append_run w s x t t ho vs vx hs hx v w' hrun (h v w' hR))
theorem IntsL.at_ {w : World} {A : Option Addr} {n c k x : Nat} {l : List Nat} (h : IntsL w A n c l) (hx : l[k]? = some x) : ∃ b o : Nat, A = some ⟨b, o, none⟩ ∧ w.cell? ⟨b, o + k, none⟩ = some (.int .i64 (x : Int)) := by
  have e : (l.map fun (x : Nat) => Value.int .i64 (x : Int))[k]? = some (.int .i64 (x : Int)) := by rw [List.getElem?_map, hx]; rfl
  obtain ⟨b, o, ha, hc⟩ := h.2.2.2 k _ e
  exact ⟨b, o, ha, hc⟩
theorem fld_app_l (a b : List (Int × List UInt8)) (k : Nat) (h : k < a.length) : fldD (a ++ b) k = fldD a k := by simp [fldD, List.getD, List.getElem?_append_left h]
theorem fld_app_r (a b : List (Int × List UInt8)) (k : Nat) : fldD (a ++ b) (a.length + k) = fldD b k := by simp [fldD, List.getD, List.getElem?_append_right]
theorem okX.few {fs : List (Int × List UInt8)} (h : okX fs) (k : Nat) : (fldD fs k).length ≤ 64 := by
  by_cases hk : k < fs.length
  · have h1 := (h _ (fld_mem fs k hk)).2.2
    have h2 := exSz_ge (fldD fs k).length
    simp only [] at h1; omega
  · simp [fldD, List.getD, hk]
set_option maxRecDepth 100000 in
set_option maxHeartbeats 4000000 in
theorem extensionJoins_walk (A0 : Option Addr) (n0 c0 : Nat) (la : List (Int × List UInt8)) (A1 : Option Addr) (n1 c1 : Nat) (lb : List (Int × List UInt8)) (w : World) (ha : FldL w A0 n0 c0 la) (hb : FldL w A1 n1 c1 lb) :
    Calls Try.prog 8 #[.slice A0 n0 c0, .slice A1 n1 c1] w fun e w' => e = .returned (.bool true) ∧ Below w.heap.size w w' := by
  have VA := Lib.hid ha
  have VB := Lib.hid hb
  clear ha hb
  go_enter Try.func8, Try.ntmps8
  obtain ⟨F, hF⟩ : ∃ F, fieldsW la = F := ⟨_, rfl⟩
  have HXF : Hid (okX F) := by rw [← hF]; exact okX_W la
  have hF4 : F.length ≤ 4 := by rw [← hF]; exact fieldsW_len la
  go_wp2_with fail
  refine (fields_any2 _ _ _ _ _ VA.out).mono ?_
  rintro e y1 ⟨FA, fn, fc, rfl, h1, hb⟩
  have hbx : Below w.heap.size w y1 := below_via (by go_grown) hb (by first | (simp; done) | (simp; omega))
  have VA := Lib.hid (VA.out.stays hbx)
  have VB := Lib.hid (VB.out.stays hbx)
  have VF := Lib.hid h1
  have R2 := Lib.hid hbx
  have hz_y1 := R2.out.size
  clear hb hbx h1
  rw [hF] at VF
  clear hF
  have HFl := Lib.hid VF.out.len
  have hfn : fn ≤ 4 := by rw [← HFl.out]; exact hF4
  have hfc := VF.out.cap
  have hfle := VF.out.le
  have HFBF := Lib.hid (show ∀ k, (fldD F k).length ≤ 100000 from fun k => Nat.le_trans (HXF.out.few k) (by decide))
  have HENF := Lib.hid (HXF.out.enc (by omega))
  obtain ⟨G, hG⟩ : ∃ G, fieldsW lb = G := ⟨_, rfl⟩
  have HXG : Hid (okX G) := by rw [← hG]; exact okX_W lb
  have hG4 : G.length ≤ 4 := by rw [← hG]; exact fieldsW_len lb
  go_wp2_with fail
  refine (fields_any2 _ _ _ _ _ VB.out).mono ?_
  rintro e y3 ⟨GA, gn, gc, rfl, h1, hb⟩
  have hbx : Below y1.heap.size y1 y3 := below_via (by go_grown) hb (by first | (simp; done) | (simp; omega))
  have VA := Lib.hid (VA.out.stays hbx)
  have VB := Lib.hid (VB.out.stays hbx)
  have VF := Lib.hid (VF.out.stays hbx)
  have VG := Lib.hid h1
  have R4 := Lib.hid (R2.out.trans (hbx.mono hz_y1))
  have hz_y3 := R4.out.size
  clear hb hbx h1 R2 hz_y1
  rw [hG] at VG
  clear hG
  have HGl := Lib.hid VG.out.len
  have hgn : gn ≤ 4 := by rw [← HGl.out]; exact hG4
  have hgc := VG.out.cap
  have hgle := VG.out.le
  have HFBG := Lib.hid (show ∀ k, (fldD G k).length ≤ 100000 from fun k => Nat.le_trans (HXG.out.few k) (by decide))
  have HENG := Lib.hid (HXG.out.enc (by omega))
  have HXZ : Hid (okX (F ++ G)) := HXF.out.app HXG.out
  have HZ8 : (F ++ G).length ≤ 8 := by rw [List.length_append]; omega
  have HENZ := Lib.hid (HXZ.out.enc HZ8)
  have HPLZ := Lib.hid (HXZ.out.plc HZ8)
  have HRDZ := Lib.hid (HXZ.out.read HZ8)
  have HLNZ := Lib.hid (HXZ.out.len)
  have HFLZ := Lib.hid (List.flatMap_append (xs := F) (ys := G) (f := encX))
  have HTZ := Lib.hid (HXZ.out.tot HZ8)
  obtain ⟨XL, hXL⟩ : ∃ XL, F.flatMap encX = XL := ⟨_, rfl⟩
  obtain ⟨YL, hYL⟩ : ∃ YL, G.flatMap encX = YL := ⟨_, rfl⟩
  obtain ⟨ZL, hZL⟩ : ∃ ZL, (F ++ G).flatMap encX = ZL := ⟨_, rfl⟩
  rw [hXL] at HENF HFLZ
  rw [hYL] at HENG HFLZ
  rw [hZL] at HENZ HPLZ HRDZ HLNZ HFLZ
  clear hXL hYL hZL
  go_wp2_with fail
  refine (encode_any _ _ _ _ _ VF.out HFBF.out).mono ?_
  rintro e y5 ⟨XA, xn, xc, rfl, h1, hb⟩
  have hbx : Below y3.heap.size y3 y5 := below_via (by go_grown) hb (by first | (simp; done) | (simp; omega))
  have VA := Lib.hid (VA.out.stays hbx)
  have VB := Lib.hid (VB.out.stays hbx)
  have VF := Lib.hid (VF.out.stays hbx)
  have VG := Lib.hid (VG.out.stays hbx)
  have VX := Lib.hid h1
  have R6 := Lib.hid (R4.out.trans (hbx.mono hz_y3))
  have hz_y5 := R6.out.size
  clear hb hbx h1 R4 hz_y3
  rw [HENF.out] at VX ⊢
  go_wp2_with fail
  refine (encode_any _ _ _ _ _ VG.out HFBG.out).mono ?_
  rintro e y7 ⟨YA, yn, yc, rfl, h1, hb⟩
  have hbx : Below y5.heap.size y5 y7 := below_via (by go_grown) hb (by first | (simp; done) | (simp; omega))
  have VA := Lib.hid (VA.out.stays hbx)
  have VB := Lib.hid (VB.out.stays hbx)
  have VF := Lib.hid (VF.out.stays hbx)
  have VG := Lib.hid (VG.out.stays hbx)
  have VX := Lib.hid (VX.out.stays hbx)
  have VY := Lib.hid h1
  have R8 := Lib.hid (R6.out.trans (hbx.mono hz_y5))
  have hz_y7 := R8.out.size
  clear hb hbx h1 R6 hz_y5
  rw [HENG.out] at VY ⊢
  have hq1 : Below y7.heap.size y7 (y7.alloc (.cells #[] 38)) := below_alloc1 _ _
  go_wp2_with (at_builtin; first | (refine wpList_append_g (vs := .slice (some ⟨y7.heap.size, 0, none⟩) 0 0) (vx := .slice FA fn fc) rfl _ _ 32 rfl rfl rfl (R := fun v w' => ∃ A8 c8, v = .slice A8 fn c8 ∧ FldsA w' y7.heap.size A8 fn c8 F ∧ Below y7.heap.size _ w') (by obtain ⟨A8, c8, w8, h1, h2, h3, h4⟩ := run_append_flds VF.out hq1 (fld_lit _ _ (Nat.le_refl _)) (Nat.le_refl _) (by omega) (by simp) _; rw [Nat.zero_add] at h1 h2; rw [List.nil_append] at h2; exact ⟨_, w8, h1, A8, c8, rfl, h2, h4⟩) ?_; rintro v w8 ⟨A8, c8, rfl, hO, hb8⟩; have hq2 : Below y7.heap.size y7 w8 := hq1.trans hb8; have HO8 := Lib.hid hO; have HQ2 := Lib.hid hq2; have hz8 := hq2.size; clear hO hb8 hq2) | (refine wpList_append_g (vs := .slice A8 fn c8) (vx := .slice GA gn gc) rfl _ _ 32 rfl rfl rfl (R := fun v w' => ∃ A9 c9, v = .slice A9 (fn + gn) c9 ∧ FldsA w' y7.heap.size A9 (fn + gn) c9 (F ++ G) ∧ Below y7.heap.size _ w') (by obtain ⟨A8, c8, w8, h1, h2, h3, h4⟩ := run_append_flds VG.out HQ2.out HO8.out (Nat.le_refl _) (by omega) hz8 _; exact ⟨_, w8, h1, A8, c8, rfl, h2, h4⟩) ?_; rintro v w9 ⟨A9, c9, rfl, hO, hb9⟩; have HO9 := Lib.hid hO; have HQ9 := Lib.hid (HQ2.out.trans hb9); clear hO hb9 hz8 HO8 HQ2))
  clear hq1
  have R9 := Lib.hid (R8.out.trans (HQ9.out.mono hz_y7))
  have hz_w9 := R9.out.size
  have VF := Lib.hid (VF.out.stays HQ9.out)
  have VG := Lib.hid (VG.out.stays HQ9.out)
  have VX := Lib.hid (VX.out.stays HQ9.out)
  have VY := Lib.hid (VY.out.stays HQ9.out)
  clear R8 hz_y7 HQ9 VA VB
  obtain ⟨N, hN⟩ : ∃ N, fn + gn = N := ⟨_, rfl⟩
  rw [hN] at HO9 ⊢
  have VZ0 : Hid (FldL w9 A9 N c9 (F ++ G)) := HO9.out.flds
  have hN1 : (fn : Int) + (gn : Int) = (N : Int) := by omega
  have HNN := Lib.hid (show N = fn + gn by omega)
  clear hN HO9
  have HFBZ := Lib.hid (show ∀ k, (fldD (F ++ G) k).length ≤ 100000 from fun k => Nat.le_trans (HXZ.out.few k) (by decide))
  go_wp2_with fail
  refine (encode_any _ _ _ _ _ VZ0.out HFBZ.out).mono ?_
  rintro e y9 ⟨ZA, zn, zc, rfl, h1, hb⟩
  have hbx : Below w9.heap.size w9 y9 := below_via (by go_grown) hb (by first | (simp; done) | (simp; omega))
  have VF := Lib.hid (VF.out.stays hbx)
  have VG := Lib.hid (VG.out.stays hbx)
  have VX := Lib.hid (VX.out.stays hbx)
  have VY := Lib.hid (VY.out.stays hbx)
  have VZ0 := Lib.hid (VZ0.out.stays hbx)
  have VZ := Lib.hid h1
  have R10 := Lib.hid (R9.out.trans (hbx.mono hz_w9))
  have hz_y9 := R10.out.size
  clear hb hbx h1 R9 hz_w9
  rw [HENZ.out] at VZ ⊢
  have HZl := Lib.hid VZ.out.len
  go_wp2_with fail
  refine (places_any _ _ _ _ _ VZ.out).mono ?_
  rintro e y11 ⟨PA, pn, pc, rfl, h1, hb⟩
  have hbx : Below y9.heap.size y9 y11 := below_via (by go_grown) hb (by first | (simp; done) | (simp; omega))
  have VF := Lib.hid (VF.out.stays hbx)
  have VG := Lib.hid (VG.out.stays hbx)
  have VX := Lib.hid (VX.out.stays hbx)
  have VY := Lib.hid (VY.out.stays hbx)
  have VZ0 := Lib.hid (VZ0.out.stays hbx)
  have VZ := Lib.hid (VZ.out.stays hbx)
  have VP := Lib.hid h1
  have R12 := Lib.hid (R10.out.trans (hbx.mono hz_y9))
  have hz_y11 := R12.out.size
  clear hb hbx h1 R10 hz_y9
  rw [HPLZ.out] at VP
  rw [HRDZ.out]
  obtain rfl : pn = N := by
    have := VP.out.len
    rw [List.length_map, placesX_length, List.length_append, HFl.out, HGl.out] at this
    have := HNN.out; omega
  have hp1 := VP.out.2.1
  have hp2 : pc ≤ 9223372036854775807 := by have := VP.out.2.2.1; unfold maxLen at this; exact this
  have HFJ : Hid (([XL, YL] : List (List UInt8)).flatten.length = zn) := by
    rw [Hid, ← HZl.out, HFLZ.out]; simp
  have hzn : zn ≤ 512 := by rw [← HZl.out, HLNZ.out]; exact HTZ.out
  have hznt : Hid (zn = totX (F ++ G)) := by rw [Hid, ← HZl.out, HLNZ.out]
  go_wp2_with fail
  refine (refJoin_any _ _ _ [_, _] _ (lists_made2 VX.out VY.out) _ HFJ.out (by omega)).mono ?_
  rintro e y13 ⟨JA, jc, rfl, h1, hb⟩
  have hbx : Below y11.heap.size y11 y13 := below_via (by go_grown) hb (by first | (simp; done) | (simp; omega))
  have VF := Lib.hid (VF.out.stays hbx)
  have VG := Lib.hid (VG.out.stays hbx)
  have VX := Lib.hid (VX.out.stays hbx)
  have VY := Lib.hid (VY.out.stays hbx)
  have VZ0 := Lib.hid (VZ0.out.stays hbx)
  have VZ := Lib.hid (VZ.out.stays hbx)
  have VP := Lib.hid (VP.out.stays hbx)
  have VJ := Lib.hid (own_rd h1)
  have R14 := Lib.hid (R12.out.trans (hbx.mono hz_y11))
  have hz_y13 := R14.out.size
  clear hb hbx  R12 hz_y11
  clear h1
  have HSE : Hid (ZL = ([XL, YL] : List (List UInt8)).flatten) := by rw [Hid, HFLZ.out]; simp
  go_wp2_with fail
  refine (refSame_true VZ.out VJ.out HSE.out).mono ?_
  rintro e q_ ⟨rfl, rfl⟩
  clear VJ VX VY VZ0 VZ
  go_wp2_with fail
  go_loopw [15, 16] (fun s i wr => ∃ (k sm : Nat), k ≤ pn ∧ i = .int .i64 k ∧ s = .int .i64 sm ∧ Hid (sm = totX ((F ++ G).take k)) ∧ sm ≤ 512 ∧ Below y13.heap.size y13 wr) (fun _ i _ => pn - (intOf i).toNat)
  case atStart => exact ⟨0, 0, Nat.zero_le _, rfl, rfl, rfl, by decide, Below.refl _ _⟩
  case round =>
    obtain ⟨k, sm, hk, rfl, rfl, HS, hs5, hbr⟩ := hrel
    have RW := Lib.hid (R14.out.trans (hbr.mono hz_y13))
    have hz_wr := RW.out.size
    have RK := Lib.hid hbr
    have VF := Lib.hid (VF.out.stays hbr)
    have VG := Lib.hid (VG.out.stays hbr)
    have VP := Lib.hid (VP.out.stays hbr)
    clear hbr
    by_cases hkn : k < pn
    ·
      have hki : (k : Int) < (pn : Int) := by omega
      have HLZ : Hid ((F ++ G).length = pn) := by rw [Hid, List.length_append, HFl.out, HGl.out]; exact HNN.out.symm
      obtain ⟨b1, o1, rfl, hcp⟩ := VP.out.at_ (x := sm) (by rw [placesX_at 0 _ k (by rw [HLZ.out]; exact hkn), ← HS.out, Nat.zero_add])
      have ez2 : ((sm : Int) != (sm : Int)) = false := by simp [bne]
      have HT := Lib.hid (totX_take (F ++ G) k (by rw [HLZ.out]; exact hkn))
      have hle5 : totX ((F ++ G).take (k + 1)) ≤ 512 := okX.tot (fun f hf => HXZ.out f (List.mem_of_mem_take hf)) (by rw [List.length_take]; omega)
      rcases Nat.lt_or_ge k fn with klt | hge
      ·
        have hkf : (k : Int) < (fn : Int) := by omega
        rw [fld_app_l F G k (by rw [HFl.out]; exact klt)] at HT
        obtain ⟨bb, off, A', n', c', rfl, hc0, hc1, hy⟩ := VF.out.at_ klt
        have hyn : n' ≤ 100000 := by rw [← hy.len]; exact HFBF.out k
        have HYL := Lib.hid hy.len
        have HZ := Lib.hid (HXF.out.size k (by rw [HFl.out]; exact klt))
        obtain ⟨t, ht⟩ : ∃ t, fldT F k = t := ⟨_, rfl⟩
        obtain ⟨d, hd⟩ : ∃ d, fldD F k = d := ⟨_, rfl⟩
        rw [ht] at hc0 HZ
        rw [hd] at HYL HZ HT
        obtain ⟨z, hz⟩ : ∃ z, exSz d.length = z := ⟨_, rfl⟩
        rw [hz] at HZ HT
        have hsz : sm + z ≤ 512 := by have h1 := HS.out; have h2 := HT.out; omega
        clear hy ht hd hz hle5
        go_wp2_with fail
        refine (refSizeE_any t A' n' c' d _ HYL.out (by omega)).mono ?_
        rintro e y15 ⟨rfl, hb⟩
        have hbx : Below wr.heap.size wr y15 := below_via (by go_grown) hb (by first | (simp; done) | (simp; omega))
        have RK := Lib.hid (RK.out.trans (hbx.mono RK.out.size))
        have R16 := Lib.hid (RW.out.trans (hbx.mono hz_wr))
        have hz_y15 := R16.out.size
        clear hb hbx  RW hz_wr
        rw [HZ.out]
        go_wp2
        go_roundw
        case rel => exact ⟨k + 1, sm + z, by omega, by go_num, by go_num, by rw [Hid, HT.out]; have := HS.out; omega, by omega, RK.out⟩
        case measure => simp [intOf]; omega
      ·
        have hkf : ¬ (k : Int) < (fn : Int) := by omega
        obtain ⟨q, hq⟩ : ∃ q, k = fn + q := ⟨k - fn, by omega⟩
        have qlt : q < gn := by have := HNN.out; omega
        have hqi : (k : Int) - (fn : Int) = (q : Int) := by omega
        have hqi2 : (q : Int) < (gn : Int) := by omega
        have hqe : fldD (F ++ G) k = fldD G q := by rw [hq, ← HFl.out]; exact fld_app_r F G q
        rw [hqe] at HT
        clear hqe hq
        obtain ⟨bb, off, A', n', c', rfl, hc0, hc1, hy⟩ := VG.out.at_ qlt
        have hyn : n' ≤ 100000 := by rw [← hy.len]; exact HFBG.out q
        have HYL := Lib.hid hy.len
        have HZ := Lib.hid (HXG.out.size q (by rw [HGl.out]; exact qlt))
        obtain ⟨t, ht⟩ : ∃ t, fldT G q = t := ⟨_, rfl⟩
        obtain ⟨d, hd⟩ : ∃ d, fldD G q = d := ⟨_, rfl⟩
        rw [ht] at hc0 HZ
        rw [hd] at HYL HZ HT
        obtain ⟨z, hz⟩ : ∃ z, exSz d.length = z := ⟨_, rfl⟩
        rw [hz] at HZ HT
        have hsz : sm + z ≤ 512 := by have h1 := HS.out; have h2 := HT.out; omega
        clear hy ht hd hz hle5
        go_wp2_with fail
        refine (refSizeE_any t A' n' c' d _ HYL.out (by omega)).mono ?_
        rintro e y15 ⟨rfl, hb⟩
        have hbx : Below wr.heap.size wr y15 := below_via (by go_grown) hb (by first | (simp; done) | (simp; omega))
        have RK := Lib.hid (RK.out.trans (hbx.mono RK.out.size))
        have R16 := Lib.hid (RW.out.trans (hbx.mono hz_wr))
        have hz_y15 := R16.out.size
        clear hb hbx  RW hz_wr
        rw [HZ.out]
        go_wp2
        go_roundw
        case rel => exact ⟨k + 1, sm + z, by omega, by go_num, by go_num, by rw [Hid, HT.out]; have := HS.out; omega, by omega, RK.out⟩
        case measure => simp [intOf]; omega
    obtain rfl : k = pn := by omega
    obtain rfl : sm = zn := by
      rw [HS.out, hznt.out, List.take_of_length_le (by rw [List.length_append, HFl.out, HGl.out]; have := HNN.out; omega)]
    have ez3 : ((sm : Int) == (sm : Int)) = true := by simp
    clear RK hkn HS hznt
    go_wp2_with fail
    refine (extKnown _).mono ?_
    rintro e y15 ⟨rfl, hb⟩
    have hbx : Below wr.heap.size wr y15 := below_via (by go_grown) hb (by first | (simp; done) | (simp; omega))
    have R16 := Lib.hid (RW.out.trans (hbx.mono hz_wr))
    have hz_y15 := R16.out.size
    clear hb hbx  RW hz_wr
    go_wp2
    go_ret
    exact ⟨rfl, R16.out⟩
end Go.Proofs.Ytofadjcphaehcaa
