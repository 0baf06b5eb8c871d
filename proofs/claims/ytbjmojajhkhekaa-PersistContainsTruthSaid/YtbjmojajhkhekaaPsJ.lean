/- persist.Newest and its reference. -/
import Derived.Test.YtbjmojajhkhekaaPsG
namespace Go.Proofs.Ytbjmojajhkhekaa
open Go.RowKit

/-- 2: neither state is one; 1: the second one is newer; 0: the first one. -/
def nwK (la lb : List UInt8) : Nat := if ¬ lvE la = 0 ∧ ¬ lvE lb = 0 then 2 else if ¬ lvE la = 0 ∨ (lvE lb = 0 ∧ lvN la 0 < lvN lb 0) then 1 else 0
def nvN (la lb : List UInt8) (i : Nat) : Int := if nwK la lb = 2 then 0 else if nwK la lb = 1 then lvN lb i else lvN la i
def nvW (la lb : List UInt8) : Int := if nwK la lb = 1 then 1 else 0
def nvE (la lb : List UInt8) : Int := if nwK la lb = 2 then 10 else 0
theorem nv_none (la lb : List UInt8) (h : nwK la lb = 2) : (∀ i, nvN la lb i = 0) ∧ nvW la lb = 0 ∧ nvE la lb = 10 := by
  unfold nvN nvW nvE; rw [h]; exact ⟨fun i => rfl, rfl, rfl⟩
theorem nv_y (la lb : List UInt8) (h : nwK la lb = 1) : (∀ i, nvN la lb i = lvN lb i) ∧ nvW la lb = 1 ∧ nvE la lb = 0 := by
  unfold nvN nvW nvE; rw [h]; exact ⟨fun i => rfl, rfl, rfl⟩
theorem nv_x (la lb : List UInt8) (h : nwK la lb = 0) : (∀ i, nvN la lb i = lvN la i) ∧ nvW la lb = 0 ∧ nvE la lb = 0 := by
  unfold nvN nvW nvE; rw [h]; exact ⟨fun i => rfl, rfl, rfl⟩
set_option maxRecDepth 100000 in
set_option maxHeartbeats 4000000 in
theorem new_none (A1 : Option Addr) (n1 c1 : Nat) (la : List UInt8) (A2 : Option Addr) (n2 c2 : Nat) (lb : List UInt8) (w : World) (hva : Bytes w A1 n1 c1 la) (hvb : Bytes w A2 n2 c2 lb) (h1 : ¬ lvE la = 0) (h2 : ¬ lvE lb = 0) :
    Calls Try.prog 35 #[.slice A1 n1 c1, .slice A2 n2 c2] w fun e w' => e = .returned (.tuple #[.agg #[.int .i64 0, .int .i64 0, .int .i64 0, .int .i64 0, .int .i64 0, .int .i64 0, .int .i64 0], .int .i64 0, .int .i64 10]) ∧ Below w.heap.size w w' := by
  have VA := Lib.hid hva
  have VB := Lib.hid hvb
  clear hva hvb
  have la1 := VA.out.le
  have la2 := VA.out.cap
  have lb1 := VB.out.le
  have lb2 := VB.out.cap
  obtain ⟨u0, hx0⟩ : ∃ u, lvN la 0 = u := ⟨_, rfl⟩
  obtain ⟨v0, hy0⟩ : ∃ v, lvN lb 0 = v := ⟨_, rfl⟩
  obtain ⟨u1, hx1⟩ : ∃ u, lvN la 1 = u := ⟨_, rfl⟩
  obtain ⟨v1, hy1⟩ : ∃ v, lvN lb 1 = v := ⟨_, rfl⟩
  obtain ⟨u2, hx2⟩ : ∃ u, lvN la 2 = u := ⟨_, rfl⟩
  obtain ⟨v2, hy2⟩ : ∃ v, lvN lb 2 = v := ⟨_, rfl⟩
  obtain ⟨u3, hx3⟩ : ∃ u, lvN la 3 = u := ⟨_, rfl⟩
  obtain ⟨v3, hy3⟩ : ∃ v, lvN lb 3 = v := ⟨_, rfl⟩
  obtain ⟨u4, hx4⟩ : ∃ u, lvN la 4 = u := ⟨_, rfl⟩
  obtain ⟨v4, hy4⟩ : ∃ v, lvN lb 4 = v := ⟨_, rfl⟩
  obtain ⟨u5, hx5⟩ : ∃ u, lvN la 5 = u := ⟨_, rfl⟩
  obtain ⟨v5, hy5⟩ : ∃ v, lvN lb 5 = v := ⟨_, rfl⟩
  obtain ⟨u6, hx6⟩ : ∃ u, lvN la 6 = u := ⟨_, rfl⟩
  obtain ⟨v6, hy6⟩ : ∃ v, lvN lb 6 = v := ⟨_, rfl⟩
  have HNu0 := Lib.hid hx0
  have HNv0 := Lib.hid hy0
  have HNu1 := Lib.hid hx1
  have HNv1 := Lib.hid hy1
  have HNu2 := Lib.hid hx2
  have HNv2 := Lib.hid hy2
  have HNu3 := Lib.hid hx3
  have HNv3 := Lib.hid hy3
  have HNu4 := Lib.hid hx4
  have HNv4 := Lib.hid hy4
  have HNu5 := Lib.hid hx5
  have HNv5 := Lib.hid hy5
  have HNu6 := Lib.hid hx6
  have HNv6 := Lib.hid hy6
  clear hx0 hx1 hx2 hx3 hx4 hx5 hx6 hy0 hy1 hy2 hy3 hy4 hy5 hy6
  obtain ⟨ea, hea⟩ : ∃ ea, lvE la = ea := ⟨_, rfl⟩
  rw [hea] at h1
  have Hea := Lib.hid hea
  have ea1 : (ea != 0) = true := by simpa using h1
  have ea2 : (ea == 0) = false := by simpa using h1
  clear h1 hea
  obtain ⟨eb, heb⟩ : ∃ eb, lvE lb = eb := ⟨_, rfl⟩
  rw [heb] at h2
  have Heb := Lib.hid heb
  have eb1 : (eb != 0) = true := by simpa using h2
  have eb2 : (eb == 0) = false := by simpa using h2
  clear h2 heb
  go_enter Try.func35, Try.ntmps35
  go_upto_region 1 with fail
  obtain ⟨x1, h_, ex1, eh_⟩ : ∃ x1 h_, x1 = w.alloc (.cells #[.int .i64 0, .int .i64 0, .int .i64 0, .int .i64 0, .int .i64 0, .int .i64 0, .int .i64 0] 41) ∧ h_ = w.heap.size := ⟨_, _, rfl, rfl⟩
  rw [← ex1, ← eh_]
  have hbx : Below w.heap.size w x1 := by rw [ex1]; exact below_alloc1 _ _ 
  have g_H : w.heap.size ≤ h_ := by rw [eh_]; exact Nat.le_refl _
  have VA := Lib.hid (VA.out.stays hbx)
  have VB := Lib.hid (VB.out.stays hbx)
  have BH := Lib.hid (show Blk x1 h_ 41 #[.int .i64 0, .int .i64 0, .int .i64 0, .int .i64 0, .int .i64 0, .int .i64 0, .int .i64 0] by rw [ex1, eh_]; exact blk_new1_0 _ _ _ )
  have R2 := Lib.hid hbx
  have hz_x1 := R2.out.size
  clear hbx ex1 eh_
  go_wp2_with fail
  refine (load_any _ _ _ la _ VA.out).mono ?_
  rintro e y3 ⟨rfl, hb⟩
  rw [Hea.out]
  rw [show lvN la 0 = u0 from HNu0.out]
  rw [show lvN la 1 = u1 from HNu1.out]
  rw [show lvN la 2 = u2 from HNu2.out]
  rw [show lvN la 3 = u3 from HNu3.out]
  rw [show lvN la 4 = u4 from HNu4.out]
  rw [show lvN la 5 = u5 from HNu5.out]
  rw [show lvN la 6 = u6 from HNu6.out]
  have hbx : Below x1.heap.size x1 y3 := below_via (by go_grown) hb (by first | (simp; done) | (simp; omega))
  have BH := Lib.hid (BH.out.stays hbx)
  have VA := Lib.hid (VA.out.stays hbx)
  have VB := Lib.hid (VB.out.stays hbx)
  have R4 := Lib.hid (R2.out.trans (hbx.mono hz_x1))
  have hz_y3 := R4.out.size
  clear hb hbx R2 hz_x1
  go_upto_region 2 with fail
  obtain ⟨x5, x_, ex5, ex_⟩ : ∃ x5 x_, x5 = y3.alloc (.cells #[.int .i64 u0, .int .i64 u1, .int .i64 u2, .int .i64 u3, .int .i64 u4, .int .i64 u5, .int .i64 u6] 41) ∧ x_ = y3.heap.size := ⟨_, _, rfl, rfl⟩
  rw [← ex5, ← ex_]
  have hbx : Below y3.heap.size y3 x5 := by rw [ex5]; exact below_alloc1 _ _ 
  have o_H_X : h_ < x_ := by rw [ex_]; exact BH.out.lt
  have g_X : w.heap.size ≤ x_ := by rw [ex_]; exact hz_y3
  have BH := Lib.hid (BH.out.stays hbx)
  have VA := Lib.hid (VA.out.stays hbx)
  have VB := Lib.hid (VB.out.stays hbx)
  have BX := Lib.hid (show Blk x5 x_ 41 #[.int .i64 u0, .int .i64 u1, .int .i64 u2, .int .i64 u3, .int .i64 u4, .int .i64 u5, .int .i64 u6] by rw [ex5, ex_]; exact blk_new1_0 _ _ _ )
  have R6 := Lib.hid (R4.out.trans (hbx.mono hz_y3))
  have hz_x5 := R6.out.size
  clear hbx ex5 ex_ R4 hz_y3
  go_wp2_with fail
  refine (load_any _ _ _ lb _ VB.out).mono ?_
  rintro e y7 ⟨rfl, hb⟩
  rw [Heb.out]
  rw [show lvN lb 0 = v0 from HNv0.out]
  rw [show lvN lb 1 = v1 from HNv1.out]
  rw [show lvN lb 2 = v2 from HNv2.out]
  rw [show lvN lb 3 = v3 from HNv3.out]
  rw [show lvN lb 4 = v4 from HNv4.out]
  rw [show lvN lb 5 = v5 from HNv5.out]
  rw [show lvN lb 6 = v6 from HNv6.out]
  have hbx : Below x5.heap.size x5 y7 := below_via (by go_grown) hb (by first | (simp; done) | (simp; omega))
  have BH := Lib.hid (BH.out.stays hbx)
  have BX := Lib.hid (BX.out.stays hbx)
  have VA := Lib.hid (VA.out.stays hbx)
  have VB := Lib.hid (VB.out.stays hbx)
  have R8 := Lib.hid (R6.out.trans (hbx.mono hz_x5))
  have hz_y7 := R8.out.size
  clear hb hbx R6 hz_x5
  go_upto_region 3 with fail
  obtain ⟨x9, y_, ex9, ey_⟩ : ∃ x9 y_, x9 = y7.alloc (.cells #[.int .i64 v0, .int .i64 v1, .int .i64 v2, .int .i64 v3, .int .i64 v4, .int .i64 v5, .int .i64 v6] 41) ∧ y_ = y7.heap.size := ⟨_, _, rfl, rfl⟩
  rw [← ex9, ← ey_]
  have hbx : Below y7.heap.size y7 x9 := by rw [ex9]; exact below_alloc1 _ _ 
  have o_H_Y : h_ < y_ := by rw [ey_]; exact BH.out.lt
  have o_X_Y : x_ < y_ := by rw [ey_]; exact BX.out.lt
  have g_Y : w.heap.size ≤ y_ := by rw [ey_]; exact hz_y7
  have BH := Lib.hid (BH.out.stays hbx)
  have BX := Lib.hid (BX.out.stays hbx)
  have VA := Lib.hid (VA.out.stays hbx)
  have VB := Lib.hid (VB.out.stays hbx)
  have BY := Lib.hid (show Blk x9 y_ 41 #[.int .i64 v0, .int .i64 v1, .int .i64 v2, .int .i64 v3, .int .i64 v4, .int .i64 v5, .int .i64 v6] by rw [ex9, ey_]; exact blk_new1_0 _ _ _ )
  have R10 := Lib.hid (R8.out.trans (hbx.mono hz_y7))
  have hz_x9 := R10.out.size
  clear hbx ex9 ey_ R8 hz_y7
  have kX_0 : x9.cell? ⟨x_, 0, none⟩ = some (.int .i64 u0) := BX.out.cell 0
  have kX_1 : x9.cell? ⟨x_, 1, none⟩ = some (.int .i64 u1) := BX.out.cell 1
  have kX_2 : x9.cell? ⟨x_, 2, none⟩ = some (.int .i64 u2) := BX.out.cell 2
  have kX_3 : x9.cell? ⟨x_, 3, none⟩ = some (.int .i64 u3) := BX.out.cell 3
  have kX_4 : x9.cell? ⟨x_, 4, none⟩ = some (.int .i64 u4) := BX.out.cell 4
  have kX_5 : x9.cell? ⟨x_, 5, none⟩ = some (.int .i64 u5) := BX.out.cell 5
  have kX_6 : x9.cell? ⟨x_, 6, none⟩ = some (.int .i64 u6) := BX.out.cell 6
  have kY_0 : x9.cell? ⟨y_, 0, none⟩ = some (.int .i64 v0) := BY.out.cell 0
  have kY_1 : x9.cell? ⟨y_, 1, none⟩ = some (.int .i64 v1) := BY.out.cell 1
  have kY_2 : x9.cell? ⟨y_, 2, none⟩ = some (.int .i64 v2) := BY.out.cell 2
  have kY_3 : x9.cell? ⟨y_, 3, none⟩ = some (.int .i64 v3) := BY.out.cell 3
  have kY_4 : x9.cell? ⟨y_, 4, none⟩ = some (.int .i64 v4) := BY.out.cell 4
  have kY_5 : x9.cell? ⟨y_, 5, none⟩ = some (.int .i64 v5) := BY.out.cell 5
  have kY_6 : x9.cell? ⟨y_, 6, none⟩ = some (.int .i64 v6) := BY.out.cell 6
  have cH := BH.out.cell
  have zH := BH.out.frozen
  have n_x_h_ : ¬ x_ = h_ := by omega
  have n_h_x_ : ¬ h_ = x_ := by omega
  have n_y_h_ : ¬ y_ = h_ := by omega
  have n_h_y_ : ¬ h_ = y_ := by omega
  go_wp2
  clear zH cH
  clear kX_0 kX_1 kX_2 kX_3 kX_4 kX_5 kX_6 kY_0 kY_1 kY_2 kY_3 kY_4 kY_5 kY_6
  generalize hwd : World.setCell _ ⟨h_, 6, none⟩ _ = wd
  have hwd2 : stores x9 h_ [.int .i64 0, .int .i64 0, .int .i64 0, .int .i64 0, .int .i64 0, .int .i64 0, .int .i64 0] 0 = wd := hwd
  have D1 : Blk wd h_ 41 #[.int .i64 0, .int .i64 0, .int .i64 0, .int .i64 0, .int .i64 0, .int .i64 0, .int .i64 0] := by rw [← hwd2]; exact BH.out.filled _ rfl
  have RD : Below w.heap.size w wd := by rw [← hwd2]; exact Below.stores (by omega) _ _ _ R10.out
  clear hwd hwd2
  have d1_0 : wd.cell? ⟨h_, 0, none⟩ = some (.int .i64 0) := D1.cell 0
  have d1_1 : wd.cell? ⟨h_, 1, none⟩ = some (.int .i64 0) := D1.cell 1
  have d1_2 : wd.cell? ⟨h_, 2, none⟩ = some (.int .i64 0) := D1.cell 2
  have d1_3 : wd.cell? ⟨h_, 3, none⟩ = some (.int .i64 0) := D1.cell 3
  have d1_4 : wd.cell? ⟨h_, 4, none⟩ = some (.int .i64 0) := D1.cell 4
  have d1_5 : wd.cell? ⟨h_, 5, none⟩ = some (.int .i64 0) := D1.cell 5
  have d1_6 : wd.cell? ⟨h_, 6, none⟩ = some (.int .i64 0) := D1.cell 6
  try go_wp2_with fail
  refine bodyPost_ret (v := .tuple #[.agg #[.int .i64 0, .int .i64 0, .int .i64 0, .int .i64 0, .int .i64 0, .int .i64 0, .int .i64 0], .int .i64 0, .int .i64 10]) (by simp [results, Try.results35, go_sem, *]) rfl ⟨rfl, RD⟩
set_option maxRecDepth 100000 in
set_option maxHeartbeats 4000000 in
theorem new_y1 (A1 : Option Addr) (n1 c1 : Nat) (la : List UInt8) (A2 : Option Addr) (n2 c2 : Nat) (lb : List UInt8) (w : World) (hva : Bytes w A1 n1 c1 la) (hvb : Bytes w A2 n2 c2 lb) (h1 : ¬ lvE la = 0) (h2 : lvE lb = 0) :
    Calls Try.prog 35 #[.slice A1 n1 c1, .slice A2 n2 c2] w fun e w' => e = .returned (.tuple #[.agg #[.int .i64 (lvN lb 0), .int .i64 (lvN lb 1), .int .i64 (lvN lb 2), .int .i64 (lvN lb 3), .int .i64 (lvN lb 4), .int .i64 (lvN lb 5), .int .i64 (lvN lb 6)], .int .i64 1, .int .i64 0]) ∧ Below w.heap.size w w' := by
  have VA := Lib.hid hva
  have VB := Lib.hid hvb
  clear hva hvb
  have la1 := VA.out.le
  have la2 := VA.out.cap
  have lb1 := VB.out.le
  have lb2 := VB.out.cap
  obtain ⟨u0, hx0⟩ : ∃ u, lvN la 0 = u := ⟨_, rfl⟩
  obtain ⟨v0, hy0⟩ : ∃ v, lvN lb 0 = v := ⟨_, rfl⟩
  obtain ⟨u1, hx1⟩ : ∃ u, lvN la 1 = u := ⟨_, rfl⟩
  obtain ⟨v1, hy1⟩ : ∃ v, lvN lb 1 = v := ⟨_, rfl⟩
  obtain ⟨u2, hx2⟩ : ∃ u, lvN la 2 = u := ⟨_, rfl⟩
  obtain ⟨v2, hy2⟩ : ∃ v, lvN lb 2 = v := ⟨_, rfl⟩
  obtain ⟨u3, hx3⟩ : ∃ u, lvN la 3 = u := ⟨_, rfl⟩
  obtain ⟨v3, hy3⟩ : ∃ v, lvN lb 3 = v := ⟨_, rfl⟩
  obtain ⟨u4, hx4⟩ : ∃ u, lvN la 4 = u := ⟨_, rfl⟩
  obtain ⟨v4, hy4⟩ : ∃ v, lvN lb 4 = v := ⟨_, rfl⟩
  obtain ⟨u5, hx5⟩ : ∃ u, lvN la 5 = u := ⟨_, rfl⟩
  obtain ⟨v5, hy5⟩ : ∃ v, lvN lb 5 = v := ⟨_, rfl⟩
  obtain ⟨u6, hx6⟩ : ∃ u, lvN la 6 = u := ⟨_, rfl⟩
  obtain ⟨v6, hy6⟩ : ∃ v, lvN lb 6 = v := ⟨_, rfl⟩
  rw [hy0, hy1, hy2, hy3, hy4, hy5, hy6]
  have HNu0 := Lib.hid hx0
  have HNv0 := Lib.hid hy0
  have HNu1 := Lib.hid hx1
  have HNv1 := Lib.hid hy1
  have HNu2 := Lib.hid hx2
  have HNv2 := Lib.hid hy2
  have HNu3 := Lib.hid hx3
  have HNv3 := Lib.hid hy3
  have HNu4 := Lib.hid hx4
  have HNv4 := Lib.hid hy4
  have HNu5 := Lib.hid hx5
  have HNv5 := Lib.hid hy5
  have HNu6 := Lib.hid hx6
  have HNv6 := Lib.hid hy6
  clear hx0 hx1 hx2 hx3 hx4 hx5 hx6 hy0 hy1 hy2 hy3 hy4 hy5 hy6
  obtain ⟨ea, hea⟩ : ∃ ea, lvE la = ea := ⟨_, rfl⟩
  rw [hea] at h1
  have Hea := Lib.hid hea
  have ea1 : (ea != 0) = true := by simpa using h1
  have ea2 : (ea == 0) = false := by simpa using h1
  clear h1 hea
  obtain ⟨eb, heb⟩ : ∃ eb, lvE lb = eb := ⟨_, rfl⟩
  rw [heb] at h2
  have Heb := Lib.hid heb
  have eb1 : (eb != 0) = false := by simpa using h2
  have eb2 : (eb == 0) = true := by simpa using h2
  clear h2 heb
  go_enter Try.func35, Try.ntmps35
  go_upto_region 1 with fail
  obtain ⟨x1, h_, ex1, eh_⟩ : ∃ x1 h_, x1 = w.alloc (.cells #[.int .i64 0, .int .i64 0, .int .i64 0, .int .i64 0, .int .i64 0, .int .i64 0, .int .i64 0] 41) ∧ h_ = w.heap.size := ⟨_, _, rfl, rfl⟩
  rw [← ex1, ← eh_]
  have hbx : Below w.heap.size w x1 := by rw [ex1]; exact below_alloc1 _ _ 
  have g_H : w.heap.size ≤ h_ := by rw [eh_]; exact Nat.le_refl _
  have VA := Lib.hid (VA.out.stays hbx)
  have VB := Lib.hid (VB.out.stays hbx)
  have BH := Lib.hid (show Blk x1 h_ 41 #[.int .i64 0, .int .i64 0, .int .i64 0, .int .i64 0, .int .i64 0, .int .i64 0, .int .i64 0] by rw [ex1, eh_]; exact blk_new1_0 _ _ _ )
  have R2 := Lib.hid hbx
  have hz_x1 := R2.out.size
  clear hbx ex1 eh_
  go_wp2_with fail
  refine (load_any _ _ _ la _ VA.out).mono ?_
  rintro e y3 ⟨rfl, hb⟩
  rw [Hea.out]
  rw [show lvN la 0 = u0 from HNu0.out]
  rw [show lvN la 1 = u1 from HNu1.out]
  rw [show lvN la 2 = u2 from HNu2.out]
  rw [show lvN la 3 = u3 from HNu3.out]
  rw [show lvN la 4 = u4 from HNu4.out]
  rw [show lvN la 5 = u5 from HNu5.out]
  rw [show lvN la 6 = u6 from HNu6.out]
  have hbx : Below x1.heap.size x1 y3 := below_via (by go_grown) hb (by first | (simp; done) | (simp; omega))
  have BH := Lib.hid (BH.out.stays hbx)
  have VA := Lib.hid (VA.out.stays hbx)
  have VB := Lib.hid (VB.out.stays hbx)
  have R4 := Lib.hid (R2.out.trans (hbx.mono hz_x1))
  have hz_y3 := R4.out.size
  clear hb hbx R2 hz_x1
  go_upto_region 2 with fail
  obtain ⟨x5, x_, ex5, ex_⟩ : ∃ x5 x_, x5 = y3.alloc (.cells #[.int .i64 u0, .int .i64 u1, .int .i64 u2, .int .i64 u3, .int .i64 u4, .int .i64 u5, .int .i64 u6] 41) ∧ x_ = y3.heap.size := ⟨_, _, rfl, rfl⟩
  rw [← ex5, ← ex_]
  have hbx : Below y3.heap.size y3 x5 := by rw [ex5]; exact below_alloc1 _ _ 
  have o_H_X : h_ < x_ := by rw [ex_]; exact BH.out.lt
  have g_X : w.heap.size ≤ x_ := by rw [ex_]; exact hz_y3
  have BH := Lib.hid (BH.out.stays hbx)
  have VA := Lib.hid (VA.out.stays hbx)
  have VB := Lib.hid (VB.out.stays hbx)
  have BX := Lib.hid (show Blk x5 x_ 41 #[.int .i64 u0, .int .i64 u1, .int .i64 u2, .int .i64 u3, .int .i64 u4, .int .i64 u5, .int .i64 u6] by rw [ex5, ex_]; exact blk_new1_0 _ _ _ )
  have R6 := Lib.hid (R4.out.trans (hbx.mono hz_y3))
  have hz_x5 := R6.out.size
  clear hbx ex5 ex_ R4 hz_y3
  go_wp2_with fail
  refine (load_any _ _ _ lb _ VB.out).mono ?_
  rintro e y7 ⟨rfl, hb⟩
  rw [Heb.out]
  rw [show lvN lb 0 = v0 from HNv0.out]
  rw [show lvN lb 1 = v1 from HNv1.out]
  rw [show lvN lb 2 = v2 from HNv2.out]
  rw [show lvN lb 3 = v3 from HNv3.out]
  rw [show lvN lb 4 = v4 from HNv4.out]
  rw [show lvN lb 5 = v5 from HNv5.out]
  rw [show lvN lb 6 = v6 from HNv6.out]
  have hbx : Below x5.heap.size x5 y7 := below_via (by go_grown) hb (by first | (simp; done) | (simp; omega))
  have BH := Lib.hid (BH.out.stays hbx)
  have BX := Lib.hid (BX.out.stays hbx)
  have VA := Lib.hid (VA.out.stays hbx)
  have VB := Lib.hid (VB.out.stays hbx)
  have R8 := Lib.hid (R6.out.trans (hbx.mono hz_x5))
  have hz_y7 := R8.out.size
  clear hb hbx R6 hz_x5
  go_upto_region 3 with fail
  obtain ⟨x9, y_, ex9, ey_⟩ : ∃ x9 y_, x9 = y7.alloc (.cells #[.int .i64 v0, .int .i64 v1, .int .i64 v2, .int .i64 v3, .int .i64 v4, .int .i64 v5, .int .i64 v6] 41) ∧ y_ = y7.heap.size := ⟨_, _, rfl, rfl⟩
  rw [← ex9, ← ey_]
  have hbx : Below y7.heap.size y7 x9 := by rw [ex9]; exact below_alloc1 _ _ 
  have o_H_Y : h_ < y_ := by rw [ey_]; exact BH.out.lt
  have o_X_Y : x_ < y_ := by rw [ey_]; exact BX.out.lt
  have g_Y : w.heap.size ≤ y_ := by rw [ey_]; exact hz_y7
  have BH := Lib.hid (BH.out.stays hbx)
  have BX := Lib.hid (BX.out.stays hbx)
  have VA := Lib.hid (VA.out.stays hbx)
  have VB := Lib.hid (VB.out.stays hbx)
  have BY := Lib.hid (show Blk x9 y_ 41 #[.int .i64 v0, .int .i64 v1, .int .i64 v2, .int .i64 v3, .int .i64 v4, .int .i64 v5, .int .i64 v6] by rw [ex9, ey_]; exact blk_new1_0 _ _ _ )
  have R10 := Lib.hid (R8.out.trans (hbx.mono hz_y7))
  have hz_x9 := R10.out.size
  clear hbx ex9 ey_ R8 hz_y7
  have kX_0 : x9.cell? ⟨x_, 0, none⟩ = some (.int .i64 u0) := BX.out.cell 0
  have kX_1 : x9.cell? ⟨x_, 1, none⟩ = some (.int .i64 u1) := BX.out.cell 1
  have kX_2 : x9.cell? ⟨x_, 2, none⟩ = some (.int .i64 u2) := BX.out.cell 2
  have kX_3 : x9.cell? ⟨x_, 3, none⟩ = some (.int .i64 u3) := BX.out.cell 3
  have kX_4 : x9.cell? ⟨x_, 4, none⟩ = some (.int .i64 u4) := BX.out.cell 4
  have kX_5 : x9.cell? ⟨x_, 5, none⟩ = some (.int .i64 u5) := BX.out.cell 5
  have kX_6 : x9.cell? ⟨x_, 6, none⟩ = some (.int .i64 u6) := BX.out.cell 6
  have kY_0 : x9.cell? ⟨y_, 0, none⟩ = some (.int .i64 v0) := BY.out.cell 0
  have kY_1 : x9.cell? ⟨y_, 1, none⟩ = some (.int .i64 v1) := BY.out.cell 1
  have kY_2 : x9.cell? ⟨y_, 2, none⟩ = some (.int .i64 v2) := BY.out.cell 2
  have kY_3 : x9.cell? ⟨y_, 3, none⟩ = some (.int .i64 v3) := BY.out.cell 3
  have kY_4 : x9.cell? ⟨y_, 4, none⟩ = some (.int .i64 v4) := BY.out.cell 4
  have kY_5 : x9.cell? ⟨y_, 5, none⟩ = some (.int .i64 v5) := BY.out.cell 5
  have kY_6 : x9.cell? ⟨y_, 6, none⟩ = some (.int .i64 v6) := BY.out.cell 6
  have cH := BH.out.cell
  have zH := BH.out.frozen
  have n_x_h_ : ¬ x_ = h_ := by omega
  have n_h_x_ : ¬ h_ = x_ := by omega
  have n_y_h_ : ¬ y_ = h_ := by omega
  have n_h_y_ : ¬ h_ = y_ := by omega
  go_wp2
  clear zH cH
  clear kX_0 kX_1 kX_2 kX_3 kX_4 kX_5 kX_6 kY_0 kY_1 kY_2 kY_3 kY_4 kY_5 kY_6
  generalize hwd : World.setCell _ ⟨h_, 6, none⟩ _ = wd
  have hwd2 : stores x9 h_ [.int .i64 v0, .int .i64 v1, .int .i64 v2, .int .i64 v3, .int .i64 v4, .int .i64 v5, .int .i64 v6] 0 = wd := hwd
  have D1 : Blk wd h_ 41 #[.int .i64 v0, .int .i64 v1, .int .i64 v2, .int .i64 v3, .int .i64 v4, .int .i64 v5, .int .i64 v6] := by rw [← hwd2]; exact BH.out.filled _ rfl
  have RD : Below w.heap.size w wd := by rw [← hwd2]; exact Below.stores (by omega) _ _ _ R10.out
  clear hwd hwd2
  have d1_0 : wd.cell? ⟨h_, 0, none⟩ = some (.int .i64 v0) := D1.cell 0
  have d1_1 : wd.cell? ⟨h_, 1, none⟩ = some (.int .i64 v1) := D1.cell 1
  have d1_2 : wd.cell? ⟨h_, 2, none⟩ = some (.int .i64 v2) := D1.cell 2
  have d1_3 : wd.cell? ⟨h_, 3, none⟩ = some (.int .i64 v3) := D1.cell 3
  have d1_4 : wd.cell? ⟨h_, 4, none⟩ = some (.int .i64 v4) := D1.cell 4
  have d1_5 : wd.cell? ⟨h_, 5, none⟩ = some (.int .i64 v5) := D1.cell 5
  have d1_6 : wd.cell? ⟨h_, 6, none⟩ = some (.int .i64 v6) := D1.cell 6
  try go_wp2_with fail
  refine bodyPost_ret (v := .tuple #[.agg #[.int .i64 v0, .int .i64 v1, .int .i64 v2, .int .i64 v3, .int .i64 v4, .int .i64 v5, .int .i64 v6], .int .i64 1, .int .i64 0]) (by simp [results, Try.results35, go_sem, *]) rfl ⟨rfl, RD⟩
set_option maxRecDepth 100000 in
set_option maxHeartbeats 4000000 in
theorem new_x1 (A1 : Option Addr) (n1 c1 : Nat) (la : List UInt8) (A2 : Option Addr) (n2 c2 : Nat) (lb : List UInt8) (w : World) (hva : Bytes w A1 n1 c1 la) (hvb : Bytes w A2 n2 c2 lb) (h1 : lvE la = 0) (h2 : ¬ lvE lb = 0) :
    Calls Try.prog 35 #[.slice A1 n1 c1, .slice A2 n2 c2] w fun e w' => e = .returned (.tuple #[.agg #[.int .i64 (lvN la 0), .int .i64 (lvN la 1), .int .i64 (lvN la 2), .int .i64 (lvN la 3), .int .i64 (lvN la 4), .int .i64 (lvN la 5), .int .i64 (lvN la 6)], .int .i64 0, .int .i64 0]) ∧ Below w.heap.size w w' := by
  have VA := Lib.hid hva
  have VB := Lib.hid hvb
  clear hva hvb
  have la1 := VA.out.le
  have la2 := VA.out.cap
  have lb1 := VB.out.le
  have lb2 := VB.out.cap
  obtain ⟨u0, hx0⟩ : ∃ u, lvN la 0 = u := ⟨_, rfl⟩
  obtain ⟨v0, hy0⟩ : ∃ v, lvN lb 0 = v := ⟨_, rfl⟩
  obtain ⟨u1, hx1⟩ : ∃ u, lvN la 1 = u := ⟨_, rfl⟩
  obtain ⟨v1, hy1⟩ : ∃ v, lvN lb 1 = v := ⟨_, rfl⟩
  obtain ⟨u2, hx2⟩ : ∃ u, lvN la 2 = u := ⟨_, rfl⟩
  obtain ⟨v2, hy2⟩ : ∃ v, lvN lb 2 = v := ⟨_, rfl⟩
  obtain ⟨u3, hx3⟩ : ∃ u, lvN la 3 = u := ⟨_, rfl⟩
  obtain ⟨v3, hy3⟩ : ∃ v, lvN lb 3 = v := ⟨_, rfl⟩
  obtain ⟨u4, hx4⟩ : ∃ u, lvN la 4 = u := ⟨_, rfl⟩
  obtain ⟨v4, hy4⟩ : ∃ v, lvN lb 4 = v := ⟨_, rfl⟩
  obtain ⟨u5, hx5⟩ : ∃ u, lvN la 5 = u := ⟨_, rfl⟩
  obtain ⟨v5, hy5⟩ : ∃ v, lvN lb 5 = v := ⟨_, rfl⟩
  obtain ⟨u6, hx6⟩ : ∃ u, lvN la 6 = u := ⟨_, rfl⟩
  obtain ⟨v6, hy6⟩ : ∃ v, lvN lb 6 = v := ⟨_, rfl⟩
  rw [hx0, hx1, hx2, hx3, hx4, hx5, hx6]
  have HNu0 := Lib.hid hx0
  have HNv0 := Lib.hid hy0
  have HNu1 := Lib.hid hx1
  have HNv1 := Lib.hid hy1
  have HNu2 := Lib.hid hx2
  have HNv2 := Lib.hid hy2
  have HNu3 := Lib.hid hx3
  have HNv3 := Lib.hid hy3
  have HNu4 := Lib.hid hx4
  have HNv4 := Lib.hid hy4
  have HNu5 := Lib.hid hx5
  have HNv5 := Lib.hid hy5
  have HNu6 := Lib.hid hx6
  have HNv6 := Lib.hid hy6
  clear hx0 hx1 hx2 hx3 hx4 hx5 hx6 hy0 hy1 hy2 hy3 hy4 hy5 hy6
  obtain ⟨ea, hea⟩ : ∃ ea, lvE la = ea := ⟨_, rfl⟩
  rw [hea] at h1
  have Hea := Lib.hid hea
  have ea1 : (ea != 0) = false := by simpa using h1
  have ea2 : (ea == 0) = true := by simpa using h1
  clear h1 hea
  obtain ⟨eb, heb⟩ : ∃ eb, lvE lb = eb := ⟨_, rfl⟩
  rw [heb] at h2
  have Heb := Lib.hid heb
  have eb1 : (eb != 0) = true := by simpa using h2
  have eb2 : (eb == 0) = false := by simpa using h2
  clear h2 heb
  go_enter Try.func35, Try.ntmps35
  go_upto_region 1 with fail
  obtain ⟨x1, h_, ex1, eh_⟩ : ∃ x1 h_, x1 = w.alloc (.cells #[.int .i64 0, .int .i64 0, .int .i64 0, .int .i64 0, .int .i64 0, .int .i64 0, .int .i64 0] 41) ∧ h_ = w.heap.size := ⟨_, _, rfl, rfl⟩
  rw [← ex1, ← eh_]
  have hbx : Below w.heap.size w x1 := by rw [ex1]; exact below_alloc1 _ _ 
  have g_H : w.heap.size ≤ h_ := by rw [eh_]; exact Nat.le_refl _
  have VA := Lib.hid (VA.out.stays hbx)
  have VB := Lib.hid (VB.out.stays hbx)
  have BH := Lib.hid (show Blk x1 h_ 41 #[.int .i64 0, .int .i64 0, .int .i64 0, .int .i64 0, .int .i64 0, .int .i64 0, .int .i64 0] by rw [ex1, eh_]; exact blk_new1_0 _ _ _ )
  have R2 := Lib.hid hbx
  have hz_x1 := R2.out.size
  clear hbx ex1 eh_
  go_wp2_with fail
  refine (load_any _ _ _ la _ VA.out).mono ?_
  rintro e y3 ⟨rfl, hb⟩
  rw [Hea.out]
  rw [show lvN la 0 = u0 from HNu0.out]
  rw [show lvN la 1 = u1 from HNu1.out]
  rw [show lvN la 2 = u2 from HNu2.out]
  rw [show lvN la 3 = u3 from HNu3.out]
  rw [show lvN la 4 = u4 from HNu4.out]
  rw [show lvN la 5 = u5 from HNu5.out]
  rw [show lvN la 6 = u6 from HNu6.out]
  have hbx : Below x1.heap.size x1 y3 := below_via (by go_grown) hb (by first | (simp; done) | (simp; omega))
  have BH := Lib.hid (BH.out.stays hbx)
  have VA := Lib.hid (VA.out.stays hbx)
  have VB := Lib.hid (VB.out.stays hbx)
  have R4 := Lib.hid (R2.out.trans (hbx.mono hz_x1))
  have hz_y3 := R4.out.size
  clear hb hbx R2 hz_x1
  go_upto_region 2 with fail
  obtain ⟨x5, x_, ex5, ex_⟩ : ∃ x5 x_, x5 = y3.alloc (.cells #[.int .i64 u0, .int .i64 u1, .int .i64 u2, .int .i64 u3, .int .i64 u4, .int .i64 u5, .int .i64 u6] 41) ∧ x_ = y3.heap.size := ⟨_, _, rfl, rfl⟩
  rw [← ex5, ← ex_]
  have hbx : Below y3.heap.size y3 x5 := by rw [ex5]; exact below_alloc1 _ _ 
  have o_H_X : h_ < x_ := by rw [ex_]; exact BH.out.lt
  have g_X : w.heap.size ≤ x_ := by rw [ex_]; exact hz_y3
  have BH := Lib.hid (BH.out.stays hbx)
  have VA := Lib.hid (VA.out.stays hbx)
  have VB := Lib.hid (VB.out.stays hbx)
  have BX := Lib.hid (show Blk x5 x_ 41 #[.int .i64 u0, .int .i64 u1, .int .i64 u2, .int .i64 u3, .int .i64 u4, .int .i64 u5, .int .i64 u6] by rw [ex5, ex_]; exact blk_new1_0 _ _ _ )
  have R6 := Lib.hid (R4.out.trans (hbx.mono hz_y3))
  have hz_x5 := R6.out.size
  clear hbx ex5 ex_ R4 hz_y3
  go_wp2_with fail
  refine (load_any _ _ _ lb _ VB.out).mono ?_
  rintro e y7 ⟨rfl, hb⟩
  rw [Heb.out]
  rw [show lvN lb 0 = v0 from HNv0.out]
  rw [show lvN lb 1 = v1 from HNv1.out]
  rw [show lvN lb 2 = v2 from HNv2.out]
  rw [show lvN lb 3 = v3 from HNv3.out]
  rw [show lvN lb 4 = v4 from HNv4.out]
  rw [show lvN lb 5 = v5 from HNv5.out]
  rw [show lvN lb 6 = v6 from HNv6.out]
  have hbx : Below x5.heap.size x5 y7 := below_via (by go_grown) hb (by first | (simp; done) | (simp; omega))
  have BH := Lib.hid (BH.out.stays hbx)
  have BX := Lib.hid (BX.out.stays hbx)
  have VA := Lib.hid (VA.out.stays hbx)
  have VB := Lib.hid (VB.out.stays hbx)
  have R8 := Lib.hid (R6.out.trans (hbx.mono hz_x5))
  have hz_y7 := R8.out.size
  clear hb hbx R6 hz_x5
  go_upto_region 3 with fail
  obtain ⟨x9, y_, ex9, ey_⟩ : ∃ x9 y_, x9 = y7.alloc (.cells #[.int .i64 v0, .int .i64 v1, .int .i64 v2, .int .i64 v3, .int .i64 v4, .int .i64 v5, .int .i64 v6] 41) ∧ y_ = y7.heap.size := ⟨_, _, rfl, rfl⟩
  rw [← ex9, ← ey_]
  have hbx : Below y7.heap.size y7 x9 := by rw [ex9]; exact below_alloc1 _ _ 
  have o_H_Y : h_ < y_ := by rw [ey_]; exact BH.out.lt
  have o_X_Y : x_ < y_ := by rw [ey_]; exact BX.out.lt
  have g_Y : w.heap.size ≤ y_ := by rw [ey_]; exact hz_y7
  have BH := Lib.hid (BH.out.stays hbx)
  have BX := Lib.hid (BX.out.stays hbx)
  have VA := Lib.hid (VA.out.stays hbx)
  have VB := Lib.hid (VB.out.stays hbx)
  have BY := Lib.hid (show Blk x9 y_ 41 #[.int .i64 v0, .int .i64 v1, .int .i64 v2, .int .i64 v3, .int .i64 v4, .int .i64 v5, .int .i64 v6] by rw [ex9, ey_]; exact blk_new1_0 _ _ _ )
  have R10 := Lib.hid (R8.out.trans (hbx.mono hz_y7))
  have hz_x9 := R10.out.size
  clear hbx ex9 ey_ R8 hz_y7
  have kX_0 : x9.cell? ⟨x_, 0, none⟩ = some (.int .i64 u0) := BX.out.cell 0
  have kX_1 : x9.cell? ⟨x_, 1, none⟩ = some (.int .i64 u1) := BX.out.cell 1
  have kX_2 : x9.cell? ⟨x_, 2, none⟩ = some (.int .i64 u2) := BX.out.cell 2
  have kX_3 : x9.cell? ⟨x_, 3, none⟩ = some (.int .i64 u3) := BX.out.cell 3
  have kX_4 : x9.cell? ⟨x_, 4, none⟩ = some (.int .i64 u4) := BX.out.cell 4
  have kX_5 : x9.cell? ⟨x_, 5, none⟩ = some (.int .i64 u5) := BX.out.cell 5
  have kX_6 : x9.cell? ⟨x_, 6, none⟩ = some (.int .i64 u6) := BX.out.cell 6
  have kY_0 : x9.cell? ⟨y_, 0, none⟩ = some (.int .i64 v0) := BY.out.cell 0
  have kY_1 : x9.cell? ⟨y_, 1, none⟩ = some (.int .i64 v1) := BY.out.cell 1
  have kY_2 : x9.cell? ⟨y_, 2, none⟩ = some (.int .i64 v2) := BY.out.cell 2
  have kY_3 : x9.cell? ⟨y_, 3, none⟩ = some (.int .i64 v3) := BY.out.cell 3
  have kY_4 : x9.cell? ⟨y_, 4, none⟩ = some (.int .i64 v4) := BY.out.cell 4
  have kY_5 : x9.cell? ⟨y_, 5, none⟩ = some (.int .i64 v5) := BY.out.cell 5
  have kY_6 : x9.cell? ⟨y_, 6, none⟩ = some (.int .i64 v6) := BY.out.cell 6
  have cH := BH.out.cell
  have zH := BH.out.frozen
  have n_x_h_ : ¬ x_ = h_ := by omega
  have n_h_x_ : ¬ h_ = x_ := by omega
  have n_y_h_ : ¬ y_ = h_ := by omega
  have n_h_y_ : ¬ h_ = y_ := by omega
  go_wp2
  clear zH cH
  clear kX_0 kX_1 kX_2 kX_3 kX_4 kX_5 kX_6 kY_0 kY_1 kY_2 kY_3 kY_4 kY_5 kY_6
  generalize hwd : World.setCell _ ⟨h_, 6, none⟩ _ = wd
  have hwd2 : stores x9 h_ [.int .i64 u0, .int .i64 u1, .int .i64 u2, .int .i64 u3, .int .i64 u4, .int .i64 u5, .int .i64 u6] 0 = wd := hwd
  have D1 : Blk wd h_ 41 #[.int .i64 u0, .int .i64 u1, .int .i64 u2, .int .i64 u3, .int .i64 u4, .int .i64 u5, .int .i64 u6] := by rw [← hwd2]; exact BH.out.filled _ rfl
  have RD : Below w.heap.size w wd := by rw [← hwd2]; exact Below.stores (by omega) _ _ _ R10.out
  clear hwd hwd2
  have d1_0 : wd.cell? ⟨h_, 0, none⟩ = some (.int .i64 u0) := D1.cell 0
  have d1_1 : wd.cell? ⟨h_, 1, none⟩ = some (.int .i64 u1) := D1.cell 1
  have d1_2 : wd.cell? ⟨h_, 2, none⟩ = some (.int .i64 u2) := D1.cell 2
  have d1_3 : wd.cell? ⟨h_, 3, none⟩ = some (.int .i64 u3) := D1.cell 3
  have d1_4 : wd.cell? ⟨h_, 4, none⟩ = some (.int .i64 u4) := D1.cell 4
  have d1_5 : wd.cell? ⟨h_, 5, none⟩ = some (.int .i64 u5) := D1.cell 5
  have d1_6 : wd.cell? ⟨h_, 6, none⟩ = some (.int .i64 u6) := D1.cell 6
  try go_wp2_with fail
  refine bodyPost_ret (v := .tuple #[.agg #[.int .i64 u0, .int .i64 u1, .int .i64 u2, .int .i64 u3, .int .i64 u4, .int .i64 u5, .int .i64 u6], .int .i64 0, .int .i64 0]) (by simp [results, Try.results35, go_sem, *]) rfl ⟨rfl, RD⟩
set_option maxRecDepth 100000 in
set_option maxHeartbeats 4000000 in
theorem new_y2 (A1 : Option Addr) (n1 c1 : Nat) (la : List UInt8) (A2 : Option Addr) (n2 c2 : Nat) (lb : List UInt8) (w : World) (hva : Bytes w A1 n1 c1 la) (hvb : Bytes w A2 n2 c2 lb) (h1 : lvE la = 0) (h2 : lvE lb = 0) (h3 : lvN la 0 < lvN lb 0) :
    Calls Try.prog 35 #[.slice A1 n1 c1, .slice A2 n2 c2] w fun e w' => e = .returned (.tuple #[.agg #[.int .i64 (lvN lb 0), .int .i64 (lvN lb 1), .int .i64 (lvN lb 2), .int .i64 (lvN lb 3), .int .i64 (lvN lb 4), .int .i64 (lvN lb 5), .int .i64 (lvN lb 6)], .int .i64 1, .int .i64 0]) ∧ Below w.heap.size w w' := by
  have VA := Lib.hid hva
  have VB := Lib.hid hvb
  clear hva hvb
  have la1 := VA.out.le
  have la2 := VA.out.cap
  have lb1 := VB.out.le
  have lb2 := VB.out.cap
  obtain ⟨u0, hx0⟩ : ∃ u, lvN la 0 = u := ⟨_, rfl⟩
  obtain ⟨v0, hy0⟩ : ∃ v, lvN lb 0 = v := ⟨_, rfl⟩
  obtain ⟨u1, hx1⟩ : ∃ u, lvN la 1 = u := ⟨_, rfl⟩
  obtain ⟨v1, hy1⟩ : ∃ v, lvN lb 1 = v := ⟨_, rfl⟩
  obtain ⟨u2, hx2⟩ : ∃ u, lvN la 2 = u := ⟨_, rfl⟩
  obtain ⟨v2, hy2⟩ : ∃ v, lvN lb 2 = v := ⟨_, rfl⟩
  obtain ⟨u3, hx3⟩ : ∃ u, lvN la 3 = u := ⟨_, rfl⟩
  obtain ⟨v3, hy3⟩ : ∃ v, lvN lb 3 = v := ⟨_, rfl⟩
  obtain ⟨u4, hx4⟩ : ∃ u, lvN la 4 = u := ⟨_, rfl⟩
  obtain ⟨v4, hy4⟩ : ∃ v, lvN lb 4 = v := ⟨_, rfl⟩
  obtain ⟨u5, hx5⟩ : ∃ u, lvN la 5 = u := ⟨_, rfl⟩
  obtain ⟨v5, hy5⟩ : ∃ v, lvN lb 5 = v := ⟨_, rfl⟩
  obtain ⟨u6, hx6⟩ : ∃ u, lvN la 6 = u := ⟨_, rfl⟩
  obtain ⟨v6, hy6⟩ : ∃ v, lvN lb 6 = v := ⟨_, rfl⟩
  rw [hy0, hy1, hy2, hy3, hy4, hy5, hy6]
  rw [hx0, hy0] at h3
  have HNu0 := Lib.hid hx0
  have HNv0 := Lib.hid hy0
  have HNu1 := Lib.hid hx1
  have HNv1 := Lib.hid hy1
  have HNu2 := Lib.hid hx2
  have HNv2 := Lib.hid hy2
  have HNu3 := Lib.hid hx3
  have HNv3 := Lib.hid hy3
  have HNu4 := Lib.hid hx4
  have HNv4 := Lib.hid hy4
  have HNu5 := Lib.hid hx5
  have HNv5 := Lib.hid hy5
  have HNu6 := Lib.hid hx6
  have HNv6 := Lib.hid hy6
  clear hx0 hx1 hx2 hx3 hx4 hx5 hx6 hy0 hy1 hy2 hy3 hy4 hy5 hy6
  obtain ⟨ea, hea⟩ : ∃ ea, lvE la = ea := ⟨_, rfl⟩
  rw [hea] at h1
  have Hea := Lib.hid hea
  have ea1 : (ea != 0) = false := by simpa using h1
  have ea2 : (ea == 0) = true := by simpa using h1
  clear h1 hea
  obtain ⟨eb, heb⟩ : ∃ eb, lvE lb = eb := ⟨_, rfl⟩
  rw [heb] at h2
  have Heb := Lib.hid heb
  have eb1 : (eb != 0) = false := by simpa using h2
  have eb2 : (eb == 0) = true := by simpa using h2
  clear h2 heb
  have c3 : u0 < v0 := h3
  clear h3
  have c4 : decide (u0 < v0) = true := by simpa using c3
  go_enter Try.func35, Try.ntmps35
  go_upto_region 1 with fail
  obtain ⟨x1, h_, ex1, eh_⟩ : ∃ x1 h_, x1 = w.alloc (.cells #[.int .i64 0, .int .i64 0, .int .i64 0, .int .i64 0, .int .i64 0, .int .i64 0, .int .i64 0] 41) ∧ h_ = w.heap.size := ⟨_, _, rfl, rfl⟩
  rw [← ex1, ← eh_]
  have hbx : Below w.heap.size w x1 := by rw [ex1]; exact below_alloc1 _ _ 
  have g_H : w.heap.size ≤ h_ := by rw [eh_]; exact Nat.le_refl _
  have VA := Lib.hid (VA.out.stays hbx)
  have VB := Lib.hid (VB.out.stays hbx)
  have BH := Lib.hid (show Blk x1 h_ 41 #[.int .i64 0, .int .i64 0, .int .i64 0, .int .i64 0, .int .i64 0, .int .i64 0, .int .i64 0] by rw [ex1, eh_]; exact blk_new1_0 _ _ _ )
  have R2 := Lib.hid hbx
  have hz_x1 := R2.out.size
  clear hbx ex1 eh_
  go_wp2_with fail
  refine (load_any _ _ _ la _ VA.out).mono ?_
  rintro e y3 ⟨rfl, hb⟩
  rw [Hea.out]
  rw [show lvN la 0 = u0 from HNu0.out]
  rw [show lvN la 1 = u1 from HNu1.out]
  rw [show lvN la 2 = u2 from HNu2.out]
  rw [show lvN la 3 = u3 from HNu3.out]
  rw [show lvN la 4 = u4 from HNu4.out]
  rw [show lvN la 5 = u5 from HNu5.out]
  rw [show lvN la 6 = u6 from HNu6.out]
  have hbx : Below x1.heap.size x1 y3 := below_via (by go_grown) hb (by first | (simp; done) | (simp; omega))
  have BH := Lib.hid (BH.out.stays hbx)
  have VA := Lib.hid (VA.out.stays hbx)
  have VB := Lib.hid (VB.out.stays hbx)
  have R4 := Lib.hid (R2.out.trans (hbx.mono hz_x1))
  have hz_y3 := R4.out.size
  clear hb hbx R2 hz_x1
  go_upto_region 2 with fail
  obtain ⟨x5, x_, ex5, ex_⟩ : ∃ x5 x_, x5 = y3.alloc (.cells #[.int .i64 u0, .int .i64 u1, .int .i64 u2, .int .i64 u3, .int .i64 u4, .int .i64 u5, .int .i64 u6] 41) ∧ x_ = y3.heap.size := ⟨_, _, rfl, rfl⟩
  rw [← ex5, ← ex_]
  have hbx : Below y3.heap.size y3 x5 := by rw [ex5]; exact below_alloc1 _ _ 
  have o_H_X : h_ < x_ := by rw [ex_]; exact BH.out.lt
  have g_X : w.heap.size ≤ x_ := by rw [ex_]; exact hz_y3
  have BH := Lib.hid (BH.out.stays hbx)
  have VA := Lib.hid (VA.out.stays hbx)
  have VB := Lib.hid (VB.out.stays hbx)
  have BX := Lib.hid (show Blk x5 x_ 41 #[.int .i64 u0, .int .i64 u1, .int .i64 u2, .int .i64 u3, .int .i64 u4, .int .i64 u5, .int .i64 u6] by rw [ex5, ex_]; exact blk_new1_0 _ _ _ )
  have R6 := Lib.hid (R4.out.trans (hbx.mono hz_y3))
  have hz_x5 := R6.out.size
  clear hbx ex5 ex_ R4 hz_y3
  go_wp2_with fail
  refine (load_any _ _ _ lb _ VB.out).mono ?_
  rintro e y7 ⟨rfl, hb⟩
  rw [Heb.out]
  rw [show lvN lb 0 = v0 from HNv0.out]
  rw [show lvN lb 1 = v1 from HNv1.out]
  rw [show lvN lb 2 = v2 from HNv2.out]
  rw [show lvN lb 3 = v3 from HNv3.out]
  rw [show lvN lb 4 = v4 from HNv4.out]
  rw [show lvN lb 5 = v5 from HNv5.out]
  rw [show lvN lb 6 = v6 from HNv6.out]
  have hbx : Below x5.heap.size x5 y7 := below_via (by go_grown) hb (by first | (simp; done) | (simp; omega))
  have BH := Lib.hid (BH.out.stays hbx)
  have BX := Lib.hid (BX.out.stays hbx)
  have VA := Lib.hid (VA.out.stays hbx)
  have VB := Lib.hid (VB.out.stays hbx)
  have R8 := Lib.hid (R6.out.trans (hbx.mono hz_x5))
  have hz_y7 := R8.out.size
  clear hb hbx R6 hz_x5
  go_upto_region 3 with fail
  obtain ⟨x9, y_, ex9, ey_⟩ : ∃ x9 y_, x9 = y7.alloc (.cells #[.int .i64 v0, .int .i64 v1, .int .i64 v2, .int .i64 v3, .int .i64 v4, .int .i64 v5, .int .i64 v6] 41) ∧ y_ = y7.heap.size := ⟨_, _, rfl, rfl⟩
  rw [← ex9, ← ey_]
  have hbx : Below y7.heap.size y7 x9 := by rw [ex9]; exact below_alloc1 _ _ 
  have o_H_Y : h_ < y_ := by rw [ey_]; exact BH.out.lt
  have o_X_Y : x_ < y_ := by rw [ey_]; exact BX.out.lt
  have g_Y : w.heap.size ≤ y_ := by rw [ey_]; exact hz_y7
  have BH := Lib.hid (BH.out.stays hbx)
  have BX := Lib.hid (BX.out.stays hbx)
  have VA := Lib.hid (VA.out.stays hbx)
  have VB := Lib.hid (VB.out.stays hbx)
  have BY := Lib.hid (show Blk x9 y_ 41 #[.int .i64 v0, .int .i64 v1, .int .i64 v2, .int .i64 v3, .int .i64 v4, .int .i64 v5, .int .i64 v6] by rw [ex9, ey_]; exact blk_new1_0 _ _ _ )
  have R10 := Lib.hid (R8.out.trans (hbx.mono hz_y7))
  have hz_x9 := R10.out.size
  clear hbx ex9 ey_ R8 hz_y7
  have kX_0 : x9.cell? ⟨x_, 0, none⟩ = some (.int .i64 u0) := BX.out.cell 0
  have kX_1 : x9.cell? ⟨x_, 1, none⟩ = some (.int .i64 u1) := BX.out.cell 1
  have kX_2 : x9.cell? ⟨x_, 2, none⟩ = some (.int .i64 u2) := BX.out.cell 2
  have kX_3 : x9.cell? ⟨x_, 3, none⟩ = some (.int .i64 u3) := BX.out.cell 3
  have kX_4 : x9.cell? ⟨x_, 4, none⟩ = some (.int .i64 u4) := BX.out.cell 4
  have kX_5 : x9.cell? ⟨x_, 5, none⟩ = some (.int .i64 u5) := BX.out.cell 5
  have kX_6 : x9.cell? ⟨x_, 6, none⟩ = some (.int .i64 u6) := BX.out.cell 6
  have kY_0 : x9.cell? ⟨y_, 0, none⟩ = some (.int .i64 v0) := BY.out.cell 0
  have kY_1 : x9.cell? ⟨y_, 1, none⟩ = some (.int .i64 v1) := BY.out.cell 1
  have kY_2 : x9.cell? ⟨y_, 2, none⟩ = some (.int .i64 v2) := BY.out.cell 2
  have kY_3 : x9.cell? ⟨y_, 3, none⟩ = some (.int .i64 v3) := BY.out.cell 3
  have kY_4 : x9.cell? ⟨y_, 4, none⟩ = some (.int .i64 v4) := BY.out.cell 4
  have kY_5 : x9.cell? ⟨y_, 5, none⟩ = some (.int .i64 v5) := BY.out.cell 5
  have kY_6 : x9.cell? ⟨y_, 6, none⟩ = some (.int .i64 v6) := BY.out.cell 6
  have cH := BH.out.cell
  have zH := BH.out.frozen
  have n_x_h_ : ¬ x_ = h_ := by omega
  have n_h_x_ : ¬ h_ = x_ := by omega
  have n_y_h_ : ¬ y_ = h_ := by omega
  have n_h_y_ : ¬ h_ = y_ := by omega
  go_wp2
  clear zH cH
  clear kX_0 kX_1 kX_2 kX_3 kX_4 kX_5 kX_6 kY_0 kY_1 kY_2 kY_3 kY_4 kY_5 kY_6
  generalize hwd : World.setCell _ ⟨h_, 6, none⟩ _ = wd
  have hwd2 : stores x9 h_ [.int .i64 v0, .int .i64 v1, .int .i64 v2, .int .i64 v3, .int .i64 v4, .int .i64 v5, .int .i64 v6] 0 = wd := hwd
  have D1 : Blk wd h_ 41 #[.int .i64 v0, .int .i64 v1, .int .i64 v2, .int .i64 v3, .int .i64 v4, .int .i64 v5, .int .i64 v6] := by rw [← hwd2]; exact BH.out.filled _ rfl
  have RD : Below w.heap.size w wd := by rw [← hwd2]; exact Below.stores (by omega) _ _ _ R10.out
  clear hwd hwd2
  have d1_0 : wd.cell? ⟨h_, 0, none⟩ = some (.int .i64 v0) := D1.cell 0
  have d1_1 : wd.cell? ⟨h_, 1, none⟩ = some (.int .i64 v1) := D1.cell 1
  have d1_2 : wd.cell? ⟨h_, 2, none⟩ = some (.int .i64 v2) := D1.cell 2
  have d1_3 : wd.cell? ⟨h_, 3, none⟩ = some (.int .i64 v3) := D1.cell 3
  have d1_4 : wd.cell? ⟨h_, 4, none⟩ = some (.int .i64 v4) := D1.cell 4
  have d1_5 : wd.cell? ⟨h_, 5, none⟩ = some (.int .i64 v5) := D1.cell 5
  have d1_6 : wd.cell? ⟨h_, 6, none⟩ = some (.int .i64 v6) := D1.cell 6
  try go_wp2_with fail
  refine bodyPost_ret (v := .tuple #[.agg #[.int .i64 v0, .int .i64 v1, .int .i64 v2, .int .i64 v3, .int .i64 v4, .int .i64 v5, .int .i64 v6], .int .i64 1, .int .i64 0]) (by simp [results, Try.results35, go_sem, *]) rfl ⟨rfl, RD⟩
set_option maxRecDepth 100000 in
set_option maxHeartbeats 4000000 in
theorem new_x2 (A1 : Option Addr) (n1 c1 : Nat) (la : List UInt8) (A2 : Option Addr) (n2 c2 : Nat) (lb : List UInt8) (w : World) (hva : Bytes w A1 n1 c1 la) (hvb : Bytes w A2 n2 c2 lb) (h1 : lvE la = 0) (h2 : lvE lb = 0) (h3 : ¬ lvN la 0 < lvN lb 0) :
    Calls Try.prog 35 #[.slice A1 n1 c1, .slice A2 n2 c2] w fun e w' => e = .returned (.tuple #[.agg #[.int .i64 (lvN la 0), .int .i64 (lvN la 1), .int .i64 (lvN la 2), .int .i64 (lvN la 3), .int .i64 (lvN la 4), .int .i64 (lvN la 5), .int .i64 (lvN la 6)], .int .i64 0, .int .i64 0]) ∧ Below w.heap.size w w' := by
  have VA := Lib.hid hva
  have VB := Lib.hid hvb
  clear hva hvb
  have la1 := VA.out.le
  have la2 := VA.out.cap
  have lb1 := VB.out.le
  have lb2 := VB.out.cap
  obtain ⟨u0, hx0⟩ : ∃ u, lvN la 0 = u := ⟨_, rfl⟩
  obtain ⟨v0, hy0⟩ : ∃ v, lvN lb 0 = v := ⟨_, rfl⟩
  obtain ⟨u1, hx1⟩ : ∃ u, lvN la 1 = u := ⟨_, rfl⟩
  obtain ⟨v1, hy1⟩ : ∃ v, lvN lb 1 = v := ⟨_, rfl⟩
  obtain ⟨u2, hx2⟩ : ∃ u, lvN la 2 = u := ⟨_, rfl⟩
  obtain ⟨v2, hy2⟩ : ∃ v, lvN lb 2 = v := ⟨_, rfl⟩
  obtain ⟨u3, hx3⟩ : ∃ u, lvN la 3 = u := ⟨_, rfl⟩
  obtain ⟨v3, hy3⟩ : ∃ v, lvN lb 3 = v := ⟨_, rfl⟩
  obtain ⟨u4, hx4⟩ : ∃ u, lvN la 4 = u := ⟨_, rfl⟩
  obtain ⟨v4, hy4⟩ : ∃ v, lvN lb 4 = v := ⟨_, rfl⟩
  obtain ⟨u5, hx5⟩ : ∃ u, lvN la 5 = u := ⟨_, rfl⟩
  obtain ⟨v5, hy5⟩ : ∃ v, lvN lb 5 = v := ⟨_, rfl⟩
  obtain ⟨u6, hx6⟩ : ∃ u, lvN la 6 = u := ⟨_, rfl⟩
  obtain ⟨v6, hy6⟩ : ∃ v, lvN lb 6 = v := ⟨_, rfl⟩
  rw [hx0, hx1, hx2, hx3, hx4, hx5, hx6]
  rw [hx0, hy0] at h3
  have HNu0 := Lib.hid hx0
  have HNv0 := Lib.hid hy0
  have HNu1 := Lib.hid hx1
  have HNv1 := Lib.hid hy1
  have HNu2 := Lib.hid hx2
  have HNv2 := Lib.hid hy2
  have HNu3 := Lib.hid hx3
  have HNv3 := Lib.hid hy3
  have HNu4 := Lib.hid hx4
  have HNv4 := Lib.hid hy4
  have HNu5 := Lib.hid hx5
  have HNv5 := Lib.hid hy5
  have HNu6 := Lib.hid hx6
  have HNv6 := Lib.hid hy6
  clear hx0 hx1 hx2 hx3 hx4 hx5 hx6 hy0 hy1 hy2 hy3 hy4 hy5 hy6
  obtain ⟨ea, hea⟩ : ∃ ea, lvE la = ea := ⟨_, rfl⟩
  rw [hea] at h1
  have Hea := Lib.hid hea
  have ea1 : (ea != 0) = false := by simpa using h1
  have ea2 : (ea == 0) = true := by simpa using h1
  clear h1 hea
  obtain ⟨eb, heb⟩ : ∃ eb, lvE lb = eb := ⟨_, rfl⟩
  rw [heb] at h2
  have Heb := Lib.hid heb
  have eb1 : (eb != 0) = false := by simpa using h2
  have eb2 : (eb == 0) = true := by simpa using h2
  clear h2 heb
  have c3 : ¬ u0 < v0 := h3
  clear h3
  have c4 : decide (u0 < v0) = false := by simpa using c3
  go_enter Try.func35, Try.ntmps35
  go_upto_region 1 with fail
  obtain ⟨x1, h_, ex1, eh_⟩ : ∃ x1 h_, x1 = w.alloc (.cells #[.int .i64 0, .int .i64 0, .int .i64 0, .int .i64 0, .int .i64 0, .int .i64 0, .int .i64 0] 41) ∧ h_ = w.heap.size := ⟨_, _, rfl, rfl⟩
  rw [← ex1, ← eh_]
  have hbx : Below w.heap.size w x1 := by rw [ex1]; exact below_alloc1 _ _ 
  have g_H : w.heap.size ≤ h_ := by rw [eh_]; exact Nat.le_refl _
  have VA := Lib.hid (VA.out.stays hbx)
  have VB := Lib.hid (VB.out.stays hbx)
  have BH := Lib.hid (show Blk x1 h_ 41 #[.int .i64 0, .int .i64 0, .int .i64 0, .int .i64 0, .int .i64 0, .int .i64 0, .int .i64 0] by rw [ex1, eh_]; exact blk_new1_0 _ _ _ )
  have R2 := Lib.hid hbx
  have hz_x1 := R2.out.size
  clear hbx ex1 eh_
  go_wp2_with fail
  refine (load_any _ _ _ la _ VA.out).mono ?_
  rintro e y3 ⟨rfl, hb⟩
  rw [Hea.out]
  rw [show lvN la 0 = u0 from HNu0.out]
  rw [show lvN la 1 = u1 from HNu1.out]
  rw [show lvN la 2 = u2 from HNu2.out]
  rw [show lvN la 3 = u3 from HNu3.out]
  rw [show lvN la 4 = u4 from HNu4.out]
  rw [show lvN la 5 = u5 from HNu5.out]
  rw [show lvN la 6 = u6 from HNu6.out]
  have hbx : Below x1.heap.size x1 y3 := below_via (by go_grown) hb (by first | (simp; done) | (simp; omega))
  have BH := Lib.hid (BH.out.stays hbx)
  have VA := Lib.hid (VA.out.stays hbx)
  have VB := Lib.hid (VB.out.stays hbx)
  have R4 := Lib.hid (R2.out.trans (hbx.mono hz_x1))
  have hz_y3 := R4.out.size
  clear hb hbx R2 hz_x1
  go_upto_region 2 with fail
  obtain ⟨x5, x_, ex5, ex_⟩ : ∃ x5 x_, x5 = y3.alloc (.cells #[.int .i64 u0, .int .i64 u1, .int .i64 u2, .int .i64 u3, .int .i64 u4, .int .i64 u5, .int .i64 u6] 41) ∧ x_ = y3.heap.size := ⟨_, _, rfl, rfl⟩
  rw [← ex5, ← ex_]
  have hbx : Below y3.heap.size y3 x5 := by rw [ex5]; exact below_alloc1 _ _ 
  have o_H_X : h_ < x_ := by rw [ex_]; exact BH.out.lt
  have g_X : w.heap.size ≤ x_ := by rw [ex_]; exact hz_y3
  have BH := Lib.hid (BH.out.stays hbx)
  have VA := Lib.hid (VA.out.stays hbx)
  have VB := Lib.hid (VB.out.stays hbx)
  have BX := Lib.hid (show Blk x5 x_ 41 #[.int .i64 u0, .int .i64 u1, .int .i64 u2, .int .i64 u3, .int .i64 u4, .int .i64 u5, .int .i64 u6] by rw [ex5, ex_]; exact blk_new1_0 _ _ _ )
  have R6 := Lib.hid (R4.out.trans (hbx.mono hz_y3))
  have hz_x5 := R6.out.size
  clear hbx ex5 ex_ R4 hz_y3
  go_wp2_with fail
  refine (load_any _ _ _ lb _ VB.out).mono ?_
  rintro e y7 ⟨rfl, hb⟩
  rw [Heb.out]
  rw [show lvN lb 0 = v0 from HNv0.out]
  rw [show lvN lb 1 = v1 from HNv1.out]
  rw [show lvN lb 2 = v2 from HNv2.out]
  rw [show lvN lb 3 = v3 from HNv3.out]
  rw [show lvN lb 4 = v4 from HNv4.out]
  rw [show lvN lb 5 = v5 from HNv5.out]
  rw [show lvN lb 6 = v6 from HNv6.out]
  have hbx : Below x5.heap.size x5 y7 := below_via (by go_grown) hb (by first | (simp; done) | (simp; omega))
  have BH := Lib.hid (BH.out.stays hbx)
  have BX := Lib.hid (BX.out.stays hbx)
  have VA := Lib.hid (VA.out.stays hbx)
  have VB := Lib.hid (VB.out.stays hbx)
  have R8 := Lib.hid (R6.out.trans (hbx.mono hz_x5))
  have hz_y7 := R8.out.size
  clear hb hbx R6 hz_x5
  go_upto_region 3 with fail
  obtain ⟨x9, y_, ex9, ey_⟩ : ∃ x9 y_, x9 = y7.alloc (.cells #[.int .i64 v0, .int .i64 v1, .int .i64 v2, .int .i64 v3, .int .i64 v4, .int .i64 v5, .int .i64 v6] 41) ∧ y_ = y7.heap.size := ⟨_, _, rfl, rfl⟩
  rw [← ex9, ← ey_]
  have hbx : Below y7.heap.size y7 x9 := by rw [ex9]; exact below_alloc1 _ _ 
  have o_H_Y : h_ < y_ := by rw [ey_]; exact BH.out.lt
  have o_X_Y : x_ < y_ := by rw [ey_]; exact BX.out.lt
  have g_Y : w.heap.size ≤ y_ := by rw [ey_]; exact hz_y7
  have BH := Lib.hid (BH.out.stays hbx)
  have BX := Lib.hid (BX.out.stays hbx)
  have VA := Lib.hid (VA.out.stays hbx)
  have VB := Lib.hid (VB.out.stays hbx)
  have BY := Lib.hid (show Blk x9 y_ 41 #[.int .i64 v0, .int .i64 v1, .int .i64 v2, .int .i64 v3, .int .i64 v4, .int .i64 v5, .int .i64 v6] by rw [ex9, ey_]; exact blk_new1_0 _ _ _ )
  have R10 := Lib.hid (R8.out.trans (hbx.mono hz_y7))
  have hz_x9 := R10.out.size
  clear hbx ex9 ey_ R8 hz_y7
  have kX_0 : x9.cell? ⟨x_, 0, none⟩ = some (.int .i64 u0) := BX.out.cell 0
  have kX_1 : x9.cell? ⟨x_, 1, none⟩ = some (.int .i64 u1) := BX.out.cell 1
  have kX_2 : x9.cell? ⟨x_, 2, none⟩ = some (.int .i64 u2) := BX.out.cell 2
  have kX_3 : x9.cell? ⟨x_, 3, none⟩ = some (.int .i64 u3) := BX.out.cell 3
  have kX_4 : x9.cell? ⟨x_, 4, none⟩ = some (.int .i64 u4) := BX.out.cell 4
  have kX_5 : x9.cell? ⟨x_, 5, none⟩ = some (.int .i64 u5) := BX.out.cell 5
  have kX_6 : x9.cell? ⟨x_, 6, none⟩ = some (.int .i64 u6) := BX.out.cell 6
  have kY_0 : x9.cell? ⟨y_, 0, none⟩ = some (.int .i64 v0) := BY.out.cell 0
  have kY_1 : x9.cell? ⟨y_, 1, none⟩ = some (.int .i64 v1) := BY.out.cell 1
  have kY_2 : x9.cell? ⟨y_, 2, none⟩ = some (.int .i64 v2) := BY.out.cell 2
  have kY_3 : x9.cell? ⟨y_, 3, none⟩ = some (.int .i64 v3) := BY.out.cell 3
  have kY_4 : x9.cell? ⟨y_, 4, none⟩ = some (.int .i64 v4) := BY.out.cell 4
  have kY_5 : x9.cell? ⟨y_, 5, none⟩ = some (.int .i64 v5) := BY.out.cell 5
  have kY_6 : x9.cell? ⟨y_, 6, none⟩ = some (.int .i64 v6) := BY.out.cell 6
  have cH := BH.out.cell
  have zH := BH.out.frozen
  have n_x_h_ : ¬ x_ = h_ := by omega
  have n_h_x_ : ¬ h_ = x_ := by omega
  have n_y_h_ : ¬ y_ = h_ := by omega
  have n_h_y_ : ¬ h_ = y_ := by omega
  go_wp2
  clear zH cH
  clear kX_0 kX_1 kX_2 kX_3 kX_4 kX_5 kX_6 kY_0 kY_1 kY_2 kY_3 kY_4 kY_5 kY_6
  generalize hwd : World.setCell _ ⟨h_, 6, none⟩ _ = wd
  have hwd2 : stores x9 h_ [.int .i64 u0, .int .i64 u1, .int .i64 u2, .int .i64 u3, .int .i64 u4, .int .i64 u5, .int .i64 u6] 0 = wd := hwd
  have D1 : Blk wd h_ 41 #[.int .i64 u0, .int .i64 u1, .int .i64 u2, .int .i64 u3, .int .i64 u4, .int .i64 u5, .int .i64 u6] := by rw [← hwd2]; exact BH.out.filled _ rfl
  have RD : Below w.heap.size w wd := by rw [← hwd2]; exact Below.stores (by omega) _ _ _ R10.out
  clear hwd hwd2
  have d1_0 : wd.cell? ⟨h_, 0, none⟩ = some (.int .i64 u0) := D1.cell 0
  have d1_1 : wd.cell? ⟨h_, 1, none⟩ = some (.int .i64 u1) := D1.cell 1
  have d1_2 : wd.cell? ⟨h_, 2, none⟩ = some (.int .i64 u2) := D1.cell 2
  have d1_3 : wd.cell? ⟨h_, 3, none⟩ = some (.int .i64 u3) := D1.cell 3
  have d1_4 : wd.cell? ⟨h_, 4, none⟩ = some (.int .i64 u4) := D1.cell 4
  have d1_5 : wd.cell? ⟨h_, 5, none⟩ = some (.int .i64 u5) := D1.cell 5
  have d1_6 : wd.cell? ⟨h_, 6, none⟩ = some (.int .i64 u6) := D1.cell 6
  try go_wp2_with fail
  refine bodyPost_ret (v := .tuple #[.agg #[.int .i64 u0, .int .i64 u1, .int .i64 u2, .int .i64 u3, .int .i64 u4, .int .i64 u5, .int .i64 u6], .int .i64 0, .int .i64 0]) (by simp [results, Try.results35, go_sem, *]) rfl ⟨rfl, RD⟩
theorem new_any (A1 : Option Addr) (n1 c1 : Nat) (la : List UInt8) (A2 : Option Addr) (n2 c2 : Nat) (lb : List UInt8) (w : World) (hva : Bytes w A1 n1 c1 la) (hvb : Bytes w A2 n2 c2 lb) :
    Calls Try.prog 35 #[.slice A1 n1 c1, .slice A2 n2 c2] w fun e w' => e = .returned (.tuple #[.agg #[.int .i64 (nvN la lb 0), .int .i64 (nvN la lb 1), .int .i64 (nvN la lb 2), .int .i64 (nvN la lb 3), .int .i64 (nvN la lb 4), .int .i64 (nvN la lb 5), .int .i64 (nvN la lb 6)], .int .i64 (nvW la lb), .int .i64 (nvE la lb)]) ∧ Below w.heap.size w w' := by
  by_cases h1 : lvE la = 0
  · by_cases h2 : lvE lb = 0
    · by_cases h3 : lvN la 0 < lvN lb 0
      · skip
        obtain ⟨e1, e2, e3⟩ := nv_y la lb (show nwK la lb = 1 by unfold nwK; rw [if_neg (fun h => h.1 h1), if_pos (.inr ⟨h2, h3⟩)])
        rw [e2, e3, e1 0, e1 1, e1 2, e1 3, e1 4, e1 5, e1 6]
        exact new_y2 A1 n1 c1 la A2 n2 c2 lb w hva hvb h1 h2 h3
      · skip
        obtain ⟨e1, e2, e3⟩ := nv_x la lb (show nwK la lb = 0 by unfold nwK; rw [if_neg (fun h => h.1 h1), if_neg (fun h => h.elim (fun g => g h1) (fun g => h3 g.2))])
        rw [e2, e3, e1 0, e1 1, e1 2, e1 3, e1 4, e1 5, e1 6]
        exact new_x2 A1 n1 c1 la A2 n2 c2 lb w hva hvb h1 h2 h3
    · skip
      obtain ⟨e1, e2, e3⟩ := nv_x la lb (show nwK la lb = 0 by unfold nwK; rw [if_neg (fun h => h.1 h1), if_neg (fun h => h.elim (fun g => g h1) (fun g => h2 g.1))])
      rw [e2, e3, e1 0, e1 1, e1 2, e1 3, e1 4, e1 5, e1 6]
      exact new_x1 A1 n1 c1 la A2 n2 c2 lb w hva hvb h1 h2
  · by_cases h2 : lvE lb = 0
    · skip
      obtain ⟨e1, e2, e3⟩ := nv_y la lb (show nwK la lb = 1 by unfold nwK; rw [if_neg (fun h => h.2 h2), if_pos (.inl h1)])
      rw [e2, e3, e1 0, e1 1, e1 2, e1 3, e1 4, e1 5, e1 6]
      exact new_y1 A1 n1 c1 la A2 n2 c2 lb w hva hvb h1 h2
    · skip
      obtain ⟨e1, e2, e3⟩ := nv_none la lb (show nwK la lb = 2 by unfold nwK; rw [if_pos ⟨h1, h2⟩])
      rw [e2, e3, e1 0, e1 1, e1 2, e1 3, e1 4, e1 5, e1 6]
      exact new_none A1 n1 c1 la A2 n2 c2 lb w hva hvb h1 h2
set_option maxRecDepth 100000 in
set_option maxHeartbeats 4000000 in
theorem refNew_none (A1 : Option Addr) (n1 c1 : Nat) (la : List UInt8) (A2 : Option Addr) (n2 c2 : Nat) (lb : List UInt8) (w : World) (hva : Bytes w A1 n1 c1 la) (hvb : Bytes w A2 n2 c2 lb) (h1 : ¬ lvE la = 0) (h2 : ¬ lvE lb = 0) :
    Calls Try.prog 36 #[.slice A1 n1 c1, .slice A2 n2 c2] w fun e w' => e = .returned (.tuple #[.agg #[.int .i64 0, .int .i64 0, .int .i64 0, .int .i64 0, .int .i64 0, .int .i64 0, .int .i64 0], .int .i64 0, .int .i64 10]) ∧ Below w.heap.size w w' := by
  have VA := Lib.hid hva
  have VB := Lib.hid hvb
  clear hva hvb
  have la1 := VA.out.le
  have la2 := VA.out.cap
  have lb1 := VB.out.le
  have lb2 := VB.out.cap
  obtain ⟨u0, hx0⟩ : ∃ u, lvN la 0 = u := ⟨_, rfl⟩
  obtain ⟨v0, hy0⟩ : ∃ v, lvN lb 0 = v := ⟨_, rfl⟩
  obtain ⟨u1, hx1⟩ : ∃ u, lvN la 1 = u := ⟨_, rfl⟩
  obtain ⟨v1, hy1⟩ : ∃ v, lvN lb 1 = v := ⟨_, rfl⟩
  obtain ⟨u2, hx2⟩ : ∃ u, lvN la 2 = u := ⟨_, rfl⟩
  obtain ⟨v2, hy2⟩ : ∃ v, lvN lb 2 = v := ⟨_, rfl⟩
  obtain ⟨u3, hx3⟩ : ∃ u, lvN la 3 = u := ⟨_, rfl⟩
  obtain ⟨v3, hy3⟩ : ∃ v, lvN lb 3 = v := ⟨_, rfl⟩
  obtain ⟨u4, hx4⟩ : ∃ u, lvN la 4 = u := ⟨_, rfl⟩
  obtain ⟨v4, hy4⟩ : ∃ v, lvN lb 4 = v := ⟨_, rfl⟩
  obtain ⟨u5, hx5⟩ : ∃ u, lvN la 5 = u := ⟨_, rfl⟩
  obtain ⟨v5, hy5⟩ : ∃ v, lvN lb 5 = v := ⟨_, rfl⟩
  obtain ⟨u6, hx6⟩ : ∃ u, lvN la 6 = u := ⟨_, rfl⟩
  obtain ⟨v6, hy6⟩ : ∃ v, lvN lb 6 = v := ⟨_, rfl⟩
  have HNu0 := Lib.hid hx0
  have HNv0 := Lib.hid hy0
  have HNu1 := Lib.hid hx1
  have HNv1 := Lib.hid hy1
  have HNu2 := Lib.hid hx2
  have HNv2 := Lib.hid hy2
  have HNu3 := Lib.hid hx3
  have HNv3 := Lib.hid hy3
  have HNu4 := Lib.hid hx4
  have HNv4 := Lib.hid hy4
  have HNu5 := Lib.hid hx5
  have HNv5 := Lib.hid hy5
  have HNu6 := Lib.hid hx6
  have HNv6 := Lib.hid hy6
  clear hx0 hx1 hx2 hx3 hx4 hx5 hx6 hy0 hy1 hy2 hy3 hy4 hy5 hy6
  obtain ⟨ea, hea⟩ : ∃ ea, lvE la = ea := ⟨_, rfl⟩
  rw [hea] at h1
  have Hea := Lib.hid hea
  have ea1 : (ea != 0) = true := by simpa using h1
  have ea2 : (ea == 0) = false := by simpa using h1
  clear h1 hea
  obtain ⟨eb, heb⟩ : ∃ eb, lvE lb = eb := ⟨_, rfl⟩
  rw [heb] at h2
  have Heb := Lib.hid heb
  have eb1 : (eb != 0) = true := by simpa using h2
  have eb2 : (eb == 0) = false := by simpa using h2
  clear h2 heb
  go_enter Try.func36, Try.ntmps36
  go_upto_region 1 with fail
  obtain ⟨x1, h_, ex1, eh_⟩ : ∃ x1 h_, x1 = w.alloc (.cells #[.int .i64 0, .int .i64 0, .int .i64 0, .int .i64 0, .int .i64 0, .int .i64 0, .int .i64 0] 41) ∧ h_ = w.heap.size := ⟨_, _, rfl, rfl⟩
  rw [← ex1, ← eh_]
  have hbx : Below w.heap.size w x1 := by rw [ex1]; exact below_alloc1 _ _ 
  have g_H : w.heap.size ≤ h_ := by rw [eh_]; exact Nat.le_refl _
  have VA := Lib.hid (VA.out.stays hbx)
  have VB := Lib.hid (VB.out.stays hbx)
  have BH := Lib.hid (show Blk x1 h_ 41 #[.int .i64 0, .int .i64 0, .int .i64 0, .int .i64 0, .int .i64 0, .int .i64 0, .int .i64 0] by rw [ex1, eh_]; exact blk_new1_0 _ _ _ )
  have R2 := Lib.hid hbx
  have hz_x1 := R2.out.size
  clear hbx ex1 eh_
  go_wp2_with fail
  refine (refLoad_any _ _ _ la _ VA.out).mono ?_
  rintro e y3 ⟨rfl, hb⟩
  rw [Hea.out]
  rw [show lvN la 0 = u0 from HNu0.out]
  rw [show lvN la 1 = u1 from HNu1.out]
  rw [show lvN la 2 = u2 from HNu2.out]
  rw [show lvN la 3 = u3 from HNu3.out]
  rw [show lvN la 4 = u4 from HNu4.out]
  rw [show lvN la 5 = u5 from HNu5.out]
  rw [show lvN la 6 = u6 from HNu6.out]
  have hbx : Below x1.heap.size x1 y3 := below_via (by go_grown) hb (by first | (simp; done) | (simp; omega))
  have BH := Lib.hid (BH.out.stays hbx)
  have VA := Lib.hid (VA.out.stays hbx)
  have VB := Lib.hid (VB.out.stays hbx)
  have R4 := Lib.hid (R2.out.trans (hbx.mono hz_x1))
  have hz_y3 := R4.out.size
  clear hb hbx R2 hz_x1
  go_upto_region 2 with fail
  obtain ⟨x5, x_, ex5, ex_⟩ : ∃ x5 x_, x5 = y3.alloc (.cells #[.int .i64 u0, .int .i64 u1, .int .i64 u2, .int .i64 u3, .int .i64 u4, .int .i64 u5, .int .i64 u6] 41) ∧ x_ = y3.heap.size := ⟨_, _, rfl, rfl⟩
  rw [← ex5, ← ex_]
  have hbx : Below y3.heap.size y3 x5 := by rw [ex5]; exact below_alloc1 _ _ 
  have o_H_X : h_ < x_ := by rw [ex_]; exact BH.out.lt
  have g_X : w.heap.size ≤ x_ := by rw [ex_]; exact hz_y3
  have BH := Lib.hid (BH.out.stays hbx)
  have VA := Lib.hid (VA.out.stays hbx)
  have VB := Lib.hid (VB.out.stays hbx)
  have BX := Lib.hid (show Blk x5 x_ 41 #[.int .i64 u0, .int .i64 u1, .int .i64 u2, .int .i64 u3, .int .i64 u4, .int .i64 u5, .int .i64 u6] by rw [ex5, ex_]; exact blk_new1_0 _ _ _ )
  have R6 := Lib.hid (R4.out.trans (hbx.mono hz_y3))
  have hz_x5 := R6.out.size
  clear hbx ex5 ex_ R4 hz_y3
  go_wp2_with fail
  refine (refLoad_any _ _ _ lb _ VB.out).mono ?_
  rintro e y7 ⟨rfl, hb⟩
  rw [Heb.out]
  rw [show lvN lb 0 = v0 from HNv0.out]
  rw [show lvN lb 1 = v1 from HNv1.out]
  rw [show lvN lb 2 = v2 from HNv2.out]
  rw [show lvN lb 3 = v3 from HNv3.out]
  rw [show lvN lb 4 = v4 from HNv4.out]
  rw [show lvN lb 5 = v5 from HNv5.out]
  rw [show lvN lb 6 = v6 from HNv6.out]
  have hbx : Below x5.heap.size x5 y7 := below_via (by go_grown) hb (by first | (simp; done) | (simp; omega))
  have BH := Lib.hid (BH.out.stays hbx)
  have BX := Lib.hid (BX.out.stays hbx)
  have VA := Lib.hid (VA.out.stays hbx)
  have VB := Lib.hid (VB.out.stays hbx)
  have R8 := Lib.hid (R6.out.trans (hbx.mono hz_x5))
  have hz_y7 := R8.out.size
  clear hb hbx R6 hz_x5
  go_upto_region 3 with fail
  obtain ⟨x9, y_, ex9, ey_⟩ : ∃ x9 y_, x9 = y7.alloc (.cells #[.int .i64 v0, .int .i64 v1, .int .i64 v2, .int .i64 v3, .int .i64 v4, .int .i64 v5, .int .i64 v6] 41) ∧ y_ = y7.heap.size := ⟨_, _, rfl, rfl⟩
  rw [← ex9, ← ey_]
  have hbx : Below y7.heap.size y7 x9 := by rw [ex9]; exact below_alloc1 _ _ 
  have o_H_Y : h_ < y_ := by rw [ey_]; exact BH.out.lt
  have o_X_Y : x_ < y_ := by rw [ey_]; exact BX.out.lt
  have g_Y : w.heap.size ≤ y_ := by rw [ey_]; exact hz_y7
  have BH := Lib.hid (BH.out.stays hbx)
  have BX := Lib.hid (BX.out.stays hbx)
  have VA := Lib.hid (VA.out.stays hbx)
  have VB := Lib.hid (VB.out.stays hbx)
  have BY := Lib.hid (show Blk x9 y_ 41 #[.int .i64 v0, .int .i64 v1, .int .i64 v2, .int .i64 v3, .int .i64 v4, .int .i64 v5, .int .i64 v6] by rw [ex9, ey_]; exact blk_new1_0 _ _ _ )
  have R10 := Lib.hid (R8.out.trans (hbx.mono hz_y7))
  have hz_x9 := R10.out.size
  clear hbx ex9 ey_ R8 hz_y7
  have kX_0 : x9.cell? ⟨x_, 0, none⟩ = some (.int .i64 u0) := BX.out.cell 0
  have kX_1 : x9.cell? ⟨x_, 1, none⟩ = some (.int .i64 u1) := BX.out.cell 1
  have kX_2 : x9.cell? ⟨x_, 2, none⟩ = some (.int .i64 u2) := BX.out.cell 2
  have kX_3 : x9.cell? ⟨x_, 3, none⟩ = some (.int .i64 u3) := BX.out.cell 3
  have kX_4 : x9.cell? ⟨x_, 4, none⟩ = some (.int .i64 u4) := BX.out.cell 4
  have kX_5 : x9.cell? ⟨x_, 5, none⟩ = some (.int .i64 u5) := BX.out.cell 5
  have kX_6 : x9.cell? ⟨x_, 6, none⟩ = some (.int .i64 u6) := BX.out.cell 6
  have kY_0 : x9.cell? ⟨y_, 0, none⟩ = some (.int .i64 v0) := BY.out.cell 0
  have kY_1 : x9.cell? ⟨y_, 1, none⟩ = some (.int .i64 v1) := BY.out.cell 1
  have kY_2 : x9.cell? ⟨y_, 2, none⟩ = some (.int .i64 v2) := BY.out.cell 2
  have kY_3 : x9.cell? ⟨y_, 3, none⟩ = some (.int .i64 v3) := BY.out.cell 3
  have kY_4 : x9.cell? ⟨y_, 4, none⟩ = some (.int .i64 v4) := BY.out.cell 4
  have kY_5 : x9.cell? ⟨y_, 5, none⟩ = some (.int .i64 v5) := BY.out.cell 5
  have kY_6 : x9.cell? ⟨y_, 6, none⟩ = some (.int .i64 v6) := BY.out.cell 6
  have cH := BH.out.cell
  have zH := BH.out.frozen
  have n_x_h_ : ¬ x_ = h_ := by omega
  have n_h_x_ : ¬ h_ = x_ := by omega
  have n_y_h_ : ¬ y_ = h_ := by omega
  have n_h_y_ : ¬ h_ = y_ := by omega
  go_wp2
  clear zH cH
  clear kX_0 kX_1 kX_2 kX_3 kX_4 kX_5 kX_6 kY_0 kY_1 kY_2 kY_3 kY_4 kY_5 kY_6
  generalize hwd : World.setCell _ ⟨h_, 6, none⟩ _ = wd
  have hwd2 : stores x9 h_ [.int .i64 0, .int .i64 0, .int .i64 0, .int .i64 0, .int .i64 0, .int .i64 0, .int .i64 0] 0 = wd := hwd
  have D1 : Blk wd h_ 41 #[.int .i64 0, .int .i64 0, .int .i64 0, .int .i64 0, .int .i64 0, .int .i64 0, .int .i64 0] := by rw [← hwd2]; exact BH.out.filled _ rfl
  have RD : Below w.heap.size w wd := by rw [← hwd2]; exact Below.stores (by omega) _ _ _ R10.out
  clear hwd hwd2
  have d1_0 : wd.cell? ⟨h_, 0, none⟩ = some (.int .i64 0) := D1.cell 0
  have d1_1 : wd.cell? ⟨h_, 1, none⟩ = some (.int .i64 0) := D1.cell 1
  have d1_2 : wd.cell? ⟨h_, 2, none⟩ = some (.int .i64 0) := D1.cell 2
  have d1_3 : wd.cell? ⟨h_, 3, none⟩ = some (.int .i64 0) := D1.cell 3
  have d1_4 : wd.cell? ⟨h_, 4, none⟩ = some (.int .i64 0) := D1.cell 4
  have d1_5 : wd.cell? ⟨h_, 5, none⟩ = some (.int .i64 0) := D1.cell 5
  have d1_6 : wd.cell? ⟨h_, 6, none⟩ = some (.int .i64 0) := D1.cell 6
  try go_wp2_with fail
  refine bodyPost_ret (v := .tuple #[.agg #[.int .i64 0, .int .i64 0, .int .i64 0, .int .i64 0, .int .i64 0, .int .i64 0, .int .i64 0], .int .i64 0, .int .i64 10]) (by simp [results, Try.results36, go_sem, *]) rfl ⟨rfl, RD⟩
set_option maxRecDepth 100000 in
set_option maxHeartbeats 4000000 in
theorem refNew_y1 (A1 : Option Addr) (n1 c1 : Nat) (la : List UInt8) (A2 : Option Addr) (n2 c2 : Nat) (lb : List UInt8) (w : World) (hva : Bytes w A1 n1 c1 la) (hvb : Bytes w A2 n2 c2 lb) (h1 : ¬ lvE la = 0) (h2 : lvE lb = 0) :
    Calls Try.prog 36 #[.slice A1 n1 c1, .slice A2 n2 c2] w fun e w' => e = .returned (.tuple #[.agg #[.int .i64 (lvN lb 0), .int .i64 (lvN lb 1), .int .i64 (lvN lb 2), .int .i64 (lvN lb 3), .int .i64 (lvN lb 4), .int .i64 (lvN lb 5), .int .i64 (lvN lb 6)], .int .i64 1, .int .i64 0]) ∧ Below w.heap.size w w' := by
  have VA := Lib.hid hva
  have VB := Lib.hid hvb
  clear hva hvb
  have la1 := VA.out.le
  have la2 := VA.out.cap
  have lb1 := VB.out.le
  have lb2 := VB.out.cap
  obtain ⟨u0, hx0⟩ : ∃ u, lvN la 0 = u := ⟨_, rfl⟩
  obtain ⟨v0, hy0⟩ : ∃ v, lvN lb 0 = v := ⟨_, rfl⟩
  obtain ⟨u1, hx1⟩ : ∃ u, lvN la 1 = u := ⟨_, rfl⟩
  obtain ⟨v1, hy1⟩ : ∃ v, lvN lb 1 = v := ⟨_, rfl⟩
  obtain ⟨u2, hx2⟩ : ∃ u, lvN la 2 = u := ⟨_, rfl⟩
  obtain ⟨v2, hy2⟩ : ∃ v, lvN lb 2 = v := ⟨_, rfl⟩
  obtain ⟨u3, hx3⟩ : ∃ u, lvN la 3 = u := ⟨_, rfl⟩
  obtain ⟨v3, hy3⟩ : ∃ v, lvN lb 3 = v := ⟨_, rfl⟩
  obtain ⟨u4, hx4⟩ : ∃ u, lvN la 4 = u := ⟨_, rfl⟩
  obtain ⟨v4, hy4⟩ : ∃ v, lvN lb 4 = v := ⟨_, rfl⟩
  obtain ⟨u5, hx5⟩ : ∃ u, lvN la 5 = u := ⟨_, rfl⟩
  obtain ⟨v5, hy5⟩ : ∃ v, lvN lb 5 = v := ⟨_, rfl⟩
  obtain ⟨u6, hx6⟩ : ∃ u, lvN la 6 = u := ⟨_, rfl⟩
  obtain ⟨v6, hy6⟩ : ∃ v, lvN lb 6 = v := ⟨_, rfl⟩
  rw [hy0, hy1, hy2, hy3, hy4, hy5, hy6]
  have HNu0 := Lib.hid hx0
  have HNv0 := Lib.hid hy0
  have HNu1 := Lib.hid hx1
  have HNv1 := Lib.hid hy1
  have HNu2 := Lib.hid hx2
  have HNv2 := Lib.hid hy2
  have HNu3 := Lib.hid hx3
  have HNv3 := Lib.hid hy3
  have HNu4 := Lib.hid hx4
  have HNv4 := Lib.hid hy4
  have HNu5 := Lib.hid hx5
  have HNv5 := Lib.hid hy5
  have HNu6 := Lib.hid hx6
  have HNv6 := Lib.hid hy6
  clear hx0 hx1 hx2 hx3 hx4 hx5 hx6 hy0 hy1 hy2 hy3 hy4 hy5 hy6
  obtain ⟨ea, hea⟩ : ∃ ea, lvE la = ea := ⟨_, rfl⟩
  rw [hea] at h1
  have Hea := Lib.hid hea
  have ea1 : (ea != 0) = true := by simpa using h1
  have ea2 : (ea == 0) = false := by simpa using h1
  clear h1 hea
  obtain ⟨eb, heb⟩ : ∃ eb, lvE lb = eb := ⟨_, rfl⟩
  rw [heb] at h2
  have Heb := Lib.hid heb
  have eb1 : (eb != 0) = false := by simpa using h2
  have eb2 : (eb == 0) = true := by simpa using h2
  clear h2 heb
  go_enter Try.func36, Try.ntmps36
  go_upto_region 1 with fail
  obtain ⟨x1, h_, ex1, eh_⟩ : ∃ x1 h_, x1 = w.alloc (.cells #[.int .i64 0, .int .i64 0, .int .i64 0, .int .i64 0, .int .i64 0, .int .i64 0, .int .i64 0] 41) ∧ h_ = w.heap.size := ⟨_, _, rfl, rfl⟩
  rw [← ex1, ← eh_]
  have hbx : Below w.heap.size w x1 := by rw [ex1]; exact below_alloc1 _ _ 
  have g_H : w.heap.size ≤ h_ := by rw [eh_]; exact Nat.le_refl _
  have VA := Lib.hid (VA.out.stays hbx)
  have VB := Lib.hid (VB.out.stays hbx)
  have BH := Lib.hid (show Blk x1 h_ 41 #[.int .i64 0, .int .i64 0, .int .i64 0, .int .i64 0, .int .i64 0, .int .i64 0, .int .i64 0] by rw [ex1, eh_]; exact blk_new1_0 _ _ _ )
  have R2 := Lib.hid hbx
  have hz_x1 := R2.out.size
  clear hbx ex1 eh_
  go_wp2_with fail
  refine (refLoad_any _ _ _ la _ VA.out).mono ?_
  rintro e y3 ⟨rfl, hb⟩
  rw [Hea.out]
  rw [show lvN la 0 = u0 from HNu0.out]
  rw [show lvN la 1 = u1 from HNu1.out]
  rw [show lvN la 2 = u2 from HNu2.out]
  rw [show lvN la 3 = u3 from HNu3.out]
  rw [show lvN la 4 = u4 from HNu4.out]
  rw [show lvN la 5 = u5 from HNu5.out]
  rw [show lvN la 6 = u6 from HNu6.out]
  have hbx : Below x1.heap.size x1 y3 := below_via (by go_grown) hb (by first | (simp; done) | (simp; omega))
  have BH := Lib.hid (BH.out.stays hbx)
  have VA := Lib.hid (VA.out.stays hbx)
  have VB := Lib.hid (VB.out.stays hbx)
  have R4 := Lib.hid (R2.out.trans (hbx.mono hz_x1))
  have hz_y3 := R4.out.size
  clear hb hbx R2 hz_x1
  go_upto_region 2 with fail
  obtain ⟨x5, x_, ex5, ex_⟩ : ∃ x5 x_, x5 = y3.alloc (.cells #[.int .i64 u0, .int .i64 u1, .int .i64 u2, .int .i64 u3, .int .i64 u4, .int .i64 u5, .int .i64 u6] 41) ∧ x_ = y3.heap.size := ⟨_, _, rfl, rfl⟩
  rw [← ex5, ← ex_]
  have hbx : Below y3.heap.size y3 x5 := by rw [ex5]; exact below_alloc1 _ _ 
  have o_H_X : h_ < x_ := by rw [ex_]; exact BH.out.lt
  have g_X : w.heap.size ≤ x_ := by rw [ex_]; exact hz_y3
  have BH := Lib.hid (BH.out.stays hbx)
  have VA := Lib.hid (VA.out.stays hbx)
  have VB := Lib.hid (VB.out.stays hbx)
  have BX := Lib.hid (show Blk x5 x_ 41 #[.int .i64 u0, .int .i64 u1, .int .i64 u2, .int .i64 u3, .int .i64 u4, .int .i64 u5, .int .i64 u6] by rw [ex5, ex_]; exact blk_new1_0 _ _ _ )
  have R6 := Lib.hid (R4.out.trans (hbx.mono hz_y3))
  have hz_x5 := R6.out.size
  clear hbx ex5 ex_ R4 hz_y3
  go_wp2_with fail
  refine (refLoad_any _ _ _ lb _ VB.out).mono ?_
  rintro e y7 ⟨rfl, hb⟩
  rw [Heb.out]
  rw [show lvN lb 0 = v0 from HNv0.out]
  rw [show lvN lb 1 = v1 from HNv1.out]
  rw [show lvN lb 2 = v2 from HNv2.out]
  rw [show lvN lb 3 = v3 from HNv3.out]
  rw [show lvN lb 4 = v4 from HNv4.out]
  rw [show lvN lb 5 = v5 from HNv5.out]
  rw [show lvN lb 6 = v6 from HNv6.out]
  have hbx : Below x5.heap.size x5 y7 := below_via (by go_grown) hb (by first | (simp; done) | (simp; omega))
  have BH := Lib.hid (BH.out.stays hbx)
  have BX := Lib.hid (BX.out.stays hbx)
  have VA := Lib.hid (VA.out.stays hbx)
  have VB := Lib.hid (VB.out.stays hbx)
  have R8 := Lib.hid (R6.out.trans (hbx.mono hz_x5))
  have hz_y7 := R8.out.size
  clear hb hbx R6 hz_x5
  go_upto_region 3 with fail
  obtain ⟨x9, y_, ex9, ey_⟩ : ∃ x9 y_, x9 = y7.alloc (.cells #[.int .i64 v0, .int .i64 v1, .int .i64 v2, .int .i64 v3, .int .i64 v4, .int .i64 v5, .int .i64 v6] 41) ∧ y_ = y7.heap.size := ⟨_, _, rfl, rfl⟩
  rw [← ex9, ← ey_]
  have hbx : Below y7.heap.size y7 x9 := by rw [ex9]; exact below_alloc1 _ _ 
  have o_H_Y : h_ < y_ := by rw [ey_]; exact BH.out.lt
  have o_X_Y : x_ < y_ := by rw [ey_]; exact BX.out.lt
  have g_Y : w.heap.size ≤ y_ := by rw [ey_]; exact hz_y7
  have BH := Lib.hid (BH.out.stays hbx)
  have BX := Lib.hid (BX.out.stays hbx)
  have VA := Lib.hid (VA.out.stays hbx)
  have VB := Lib.hid (VB.out.stays hbx)
  have BY := Lib.hid (show Blk x9 y_ 41 #[.int .i64 v0, .int .i64 v1, .int .i64 v2, .int .i64 v3, .int .i64 v4, .int .i64 v5, .int .i64 v6] by rw [ex9, ey_]; exact blk_new1_0 _ _ _ )
  have R10 := Lib.hid (R8.out.trans (hbx.mono hz_y7))
  have hz_x9 := R10.out.size
  clear hbx ex9 ey_ R8 hz_y7
  have kX_0 : x9.cell? ⟨x_, 0, none⟩ = some (.int .i64 u0) := BX.out.cell 0
  have kX_1 : x9.cell? ⟨x_, 1, none⟩ = some (.int .i64 u1) := BX.out.cell 1
  have kX_2 : x9.cell? ⟨x_, 2, none⟩ = some (.int .i64 u2) := BX.out.cell 2
  have kX_3 : x9.cell? ⟨x_, 3, none⟩ = some (.int .i64 u3) := BX.out.cell 3
  have kX_4 : x9.cell? ⟨x_, 4, none⟩ = some (.int .i64 u4) := BX.out.cell 4
  have kX_5 : x9.cell? ⟨x_, 5, none⟩ = some (.int .i64 u5) := BX.out.cell 5
  have kX_6 : x9.cell? ⟨x_, 6, none⟩ = some (.int .i64 u6) := BX.out.cell 6
  have kY_0 : x9.cell? ⟨y_, 0, none⟩ = some (.int .i64 v0) := BY.out.cell 0
  have kY_1 : x9.cell? ⟨y_, 1, none⟩ = some (.int .i64 v1) := BY.out.cell 1
  have kY_2 : x9.cell? ⟨y_, 2, none⟩ = some (.int .i64 v2) := BY.out.cell 2
  have kY_3 : x9.cell? ⟨y_, 3, none⟩ = some (.int .i64 v3) := BY.out.cell 3
  have kY_4 : x9.cell? ⟨y_, 4, none⟩ = some (.int .i64 v4) := BY.out.cell 4
  have kY_5 : x9.cell? ⟨y_, 5, none⟩ = some (.int .i64 v5) := BY.out.cell 5
  have kY_6 : x9.cell? ⟨y_, 6, none⟩ = some (.int .i64 v6) := BY.out.cell 6
  have cH := BH.out.cell
  have zH := BH.out.frozen
  have n_x_h_ : ¬ x_ = h_ := by omega
  have n_h_x_ : ¬ h_ = x_ := by omega
  have n_y_h_ : ¬ y_ = h_ := by omega
  have n_h_y_ : ¬ h_ = y_ := by omega
  go_wp2
  clear zH cH
  clear kX_0 kX_1 kX_2 kX_3 kX_4 kX_5 kX_6 kY_0 kY_1 kY_2 kY_3 kY_4 kY_5 kY_6
  generalize hwd : World.setCell _ ⟨h_, 6, none⟩ _ = wd
  have hwd2 : stores x9 h_ [.int .i64 v0, .int .i64 v1, .int .i64 v2, .int .i64 v3, .int .i64 v4, .int .i64 v5, .int .i64 v6] 0 = wd := hwd
  have D1 : Blk wd h_ 41 #[.int .i64 v0, .int .i64 v1, .int .i64 v2, .int .i64 v3, .int .i64 v4, .int .i64 v5, .int .i64 v6] := by rw [← hwd2]; exact BH.out.filled _ rfl
  have RD : Below w.heap.size w wd := by rw [← hwd2]; exact Below.stores (by omega) _ _ _ R10.out
  clear hwd hwd2
  have d1_0 : wd.cell? ⟨h_, 0, none⟩ = some (.int .i64 v0) := D1.cell 0
  have d1_1 : wd.cell? ⟨h_, 1, none⟩ = some (.int .i64 v1) := D1.cell 1
  have d1_2 : wd.cell? ⟨h_, 2, none⟩ = some (.int .i64 v2) := D1.cell 2
  have d1_3 : wd.cell? ⟨h_, 3, none⟩ = some (.int .i64 v3) := D1.cell 3
  have d1_4 : wd.cell? ⟨h_, 4, none⟩ = some (.int .i64 v4) := D1.cell 4
  have d1_5 : wd.cell? ⟨h_, 5, none⟩ = some (.int .i64 v5) := D1.cell 5
  have d1_6 : wd.cell? ⟨h_, 6, none⟩ = some (.int .i64 v6) := D1.cell 6
  try go_wp2_with fail
  refine bodyPost_ret (v := .tuple #[.agg #[.int .i64 v0, .int .i64 v1, .int .i64 v2, .int .i64 v3, .int .i64 v4, .int .i64 v5, .int .i64 v6], .int .i64 1, .int .i64 0]) (by simp [results, Try.results36, go_sem, *]) rfl ⟨rfl, RD⟩
set_option maxRecDepth 100000 in
set_option maxHeartbeats 4000000 in
theorem refNew_x1 (A1 : Option Addr) (n1 c1 : Nat) (la : List UInt8) (A2 : Option Addr) (n2 c2 : Nat) (lb : List UInt8) (w : World) (hva : Bytes w A1 n1 c1 la) (hvb : Bytes w A2 n2 c2 lb) (h1 : lvE la = 0) (h2 : ¬ lvE lb = 0) :
    Calls Try.prog 36 #[.slice A1 n1 c1, .slice A2 n2 c2] w fun e w' => e = .returned (.tuple #[.agg #[.int .i64 (lvN la 0), .int .i64 (lvN la 1), .int .i64 (lvN la 2), .int .i64 (lvN la 3), .int .i64 (lvN la 4), .int .i64 (lvN la 5), .int .i64 (lvN la 6)], .int .i64 0, .int .i64 0]) ∧ Below w.heap.size w w' := by
  have VA := Lib.hid hva
  have VB := Lib.hid hvb
  clear hva hvb
  have la1 := VA.out.le
  have la2 := VA.out.cap
  have lb1 := VB.out.le
  have lb2 := VB.out.cap
  obtain ⟨u0, hx0⟩ : ∃ u, lvN la 0 = u := ⟨_, rfl⟩
  obtain ⟨v0, hy0⟩ : ∃ v, lvN lb 0 = v := ⟨_, rfl⟩
  obtain ⟨u1, hx1⟩ : ∃ u, lvN la 1 = u := ⟨_, rfl⟩
  obtain ⟨v1, hy1⟩ : ∃ v, lvN lb 1 = v := ⟨_, rfl⟩
  obtain ⟨u2, hx2⟩ : ∃ u, lvN la 2 = u := ⟨_, rfl⟩
  obtain ⟨v2, hy2⟩ : ∃ v, lvN lb 2 = v := ⟨_, rfl⟩
  obtain ⟨u3, hx3⟩ : ∃ u, lvN la 3 = u := ⟨_, rfl⟩
  obtain ⟨v3, hy3⟩ : ∃ v, lvN lb 3 = v := ⟨_, rfl⟩
  obtain ⟨u4, hx4⟩ : ∃ u, lvN la 4 = u := ⟨_, rfl⟩
  obtain ⟨v4, hy4⟩ : ∃ v, lvN lb 4 = v := ⟨_, rfl⟩
  obtain ⟨u5, hx5⟩ : ∃ u, lvN la 5 = u := ⟨_, rfl⟩
  obtain ⟨v5, hy5⟩ : ∃ v, lvN lb 5 = v := ⟨_, rfl⟩
  obtain ⟨u6, hx6⟩ : ∃ u, lvN la 6 = u := ⟨_, rfl⟩
  obtain ⟨v6, hy6⟩ : ∃ v, lvN lb 6 = v := ⟨_, rfl⟩
  rw [hx0, hx1, hx2, hx3, hx4, hx5, hx6]
  have HNu0 := Lib.hid hx0
  have HNv0 := Lib.hid hy0
  have HNu1 := Lib.hid hx1
  have HNv1 := Lib.hid hy1
  have HNu2 := Lib.hid hx2
  have HNv2 := Lib.hid hy2
  have HNu3 := Lib.hid hx3
  have HNv3 := Lib.hid hy3
  have HNu4 := Lib.hid hx4
  have HNv4 := Lib.hid hy4
  have HNu5 := Lib.hid hx5
  have HNv5 := Lib.hid hy5
  have HNu6 := Lib.hid hx6
  have HNv6 := Lib.hid hy6
  clear hx0 hx1 hx2 hx3 hx4 hx5 hx6 hy0 hy1 hy2 hy3 hy4 hy5 hy6
  obtain ⟨ea, hea⟩ : ∃ ea, lvE la = ea := ⟨_, rfl⟩
  rw [hea] at h1
  have Hea := Lib.hid hea
  have ea1 : (ea != 0) = false := by simpa using h1
  have ea2 : (ea == 0) = true := by simpa using h1
  clear h1 hea
  obtain ⟨eb, heb⟩ : ∃ eb, lvE lb = eb := ⟨_, rfl⟩
  rw [heb] at h2
  have Heb := Lib.hid heb
  have eb1 : (eb != 0) = true := by simpa using h2
  have eb2 : (eb == 0) = false := by simpa using h2
  clear h2 heb
  go_enter Try.func36, Try.ntmps36
  go_upto_region 1 with fail
  obtain ⟨x1, h_, ex1, eh_⟩ : ∃ x1 h_, x1 = w.alloc (.cells #[.int .i64 0, .int .i64 0, .int .i64 0, .int .i64 0, .int .i64 0, .int .i64 0, .int .i64 0] 41) ∧ h_ = w.heap.size := ⟨_, _, rfl, rfl⟩
  rw [← ex1, ← eh_]
  have hbx : Below w.heap.size w x1 := by rw [ex1]; exact below_alloc1 _ _ 
  have g_H : w.heap.size ≤ h_ := by rw [eh_]; exact Nat.le_refl _
  have VA := Lib.hid (VA.out.stays hbx)
  have VB := Lib.hid (VB.out.stays hbx)
  have BH := Lib.hid (show Blk x1 h_ 41 #[.int .i64 0, .int .i64 0, .int .i64 0, .int .i64 0, .int .i64 0, .int .i64 0, .int .i64 0] by rw [ex1, eh_]; exact blk_new1_0 _ _ _ )
  have R2 := Lib.hid hbx
  have hz_x1 := R2.out.size
  clear hbx ex1 eh_
  go_wp2_with fail
  refine (refLoad_any _ _ _ la _ VA.out).mono ?_
  rintro e y3 ⟨rfl, hb⟩
  rw [Hea.out]
  rw [show lvN la 0 = u0 from HNu0.out]
  rw [show lvN la 1 = u1 from HNu1.out]
  rw [show lvN la 2 = u2 from HNu2.out]
  rw [show lvN la 3 = u3 from HNu3.out]
  rw [show lvN la 4 = u4 from HNu4.out]
  rw [show lvN la 5 = u5 from HNu5.out]
  rw [show lvN la 6 = u6 from HNu6.out]
  have hbx : Below x1.heap.size x1 y3 := below_via (by go_grown) hb (by first | (simp; done) | (simp; omega))
  have BH := Lib.hid (BH.out.stays hbx)
  have VA := Lib.hid (VA.out.stays hbx)
  have VB := Lib.hid (VB.out.stays hbx)
  have R4 := Lib.hid (R2.out.trans (hbx.mono hz_x1))
  have hz_y3 := R4.out.size
  clear hb hbx R2 hz_x1
  go_upto_region 2 with fail
  obtain ⟨x5, x_, ex5, ex_⟩ : ∃ x5 x_, x5 = y3.alloc (.cells #[.int .i64 u0, .int .i64 u1, .int .i64 u2, .int .i64 u3, .int .i64 u4, .int .i64 u5, .int .i64 u6] 41) ∧ x_ = y3.heap.size := ⟨_, _, rfl, rfl⟩
  rw [← ex5, ← ex_]
  have hbx : Below y3.heap.size y3 x5 := by rw [ex5]; exact below_alloc1 _ _ 
  have o_H_X : h_ < x_ := by rw [ex_]; exact BH.out.lt
  have g_X : w.heap.size ≤ x_ := by rw [ex_]; exact hz_y3
  have BH := Lib.hid (BH.out.stays hbx)
  have VA := Lib.hid (VA.out.stays hbx)
  have VB := Lib.hid (VB.out.stays hbx)
  have BX := Lib.hid (show Blk x5 x_ 41 #[.int .i64 u0, .int .i64 u1, .int .i64 u2, .int .i64 u3, .int .i64 u4, .int .i64 u5, .int .i64 u6] by rw [ex5, ex_]; exact blk_new1_0 _ _ _ )
  have R6 := Lib.hid (R4.out.trans (hbx.mono hz_y3))
  have hz_x5 := R6.out.size
  clear hbx ex5 ex_ R4 hz_y3
  go_wp2_with fail
  refine (refLoad_any _ _ _ lb _ VB.out).mono ?_
  rintro e y7 ⟨rfl, hb⟩
  rw [Heb.out]
  rw [show lvN lb 0 = v0 from HNv0.out]
  rw [show lvN lb 1 = v1 from HNv1.out]
  rw [show lvN lb 2 = v2 from HNv2.out]
  rw [show lvN lb 3 = v3 from HNv3.out]
  rw [show lvN lb 4 = v4 from HNv4.out]
  rw [show lvN lb 5 = v5 from HNv5.out]
  rw [show lvN lb 6 = v6 from HNv6.out]
  have hbx : Below x5.heap.size x5 y7 := below_via (by go_grown) hb (by first | (simp; done) | (simp; omega))
  have BH := Lib.hid (BH.out.stays hbx)
  have BX := Lib.hid (BX.out.stays hbx)
  have VA := Lib.hid (VA.out.stays hbx)
  have VB := Lib.hid (VB.out.stays hbx)
  have R8 := Lib.hid (R6.out.trans (hbx.mono hz_x5))
  have hz_y7 := R8.out.size
  clear hb hbx R6 hz_x5
  go_upto_region 3 with fail
  obtain ⟨x9, y_, ex9, ey_⟩ : ∃ x9 y_, x9 = y7.alloc (.cells #[.int .i64 v0, .int .i64 v1, .int .i64 v2, .int .i64 v3, .int .i64 v4, .int .i64 v5, .int .i64 v6] 41) ∧ y_ = y7.heap.size := ⟨_, _, rfl, rfl⟩
  rw [← ex9, ← ey_]
  have hbx : Below y7.heap.size y7 x9 := by rw [ex9]; exact below_alloc1 _ _ 
  have o_H_Y : h_ < y_ := by rw [ey_]; exact BH.out.lt
  have o_X_Y : x_ < y_ := by rw [ey_]; exact BX.out.lt
  have g_Y : w.heap.size ≤ y_ := by rw [ey_]; exact hz_y7
  have BH := Lib.hid (BH.out.stays hbx)
  have BX := Lib.hid (BX.out.stays hbx)
  have VA := Lib.hid (VA.out.stays hbx)
  have VB := Lib.hid (VB.out.stays hbx)
  have BY := Lib.hid (show Blk x9 y_ 41 #[.int .i64 v0, .int .i64 v1, .int .i64 v2, .int .i64 v3, .int .i64 v4, .int .i64 v5, .int .i64 v6] by rw [ex9, ey_]; exact blk_new1_0 _ _ _ )
  have R10 := Lib.hid (R8.out.trans (hbx.mono hz_y7))
  have hz_x9 := R10.out.size
  clear hbx ex9 ey_ R8 hz_y7
  have kX_0 : x9.cell? ⟨x_, 0, none⟩ = some (.int .i64 u0) := BX.out.cell 0
  have kX_1 : x9.cell? ⟨x_, 1, none⟩ = some (.int .i64 u1) := BX.out.cell 1
  have kX_2 : x9.cell? ⟨x_, 2, none⟩ = some (.int .i64 u2) := BX.out.cell 2
  have kX_3 : x9.cell? ⟨x_, 3, none⟩ = some (.int .i64 u3) := BX.out.cell 3
  have kX_4 : x9.cell? ⟨x_, 4, none⟩ = some (.int .i64 u4) := BX.out.cell 4
  have kX_5 : x9.cell? ⟨x_, 5, none⟩ = some (.int .i64 u5) := BX.out.cell 5
  have kX_6 : x9.cell? ⟨x_, 6, none⟩ = some (.int .i64 u6) := BX.out.cell 6
  have kY_0 : x9.cell? ⟨y_, 0, none⟩ = some (.int .i64 v0) := BY.out.cell 0
  have kY_1 : x9.cell? ⟨y_, 1, none⟩ = some (.int .i64 v1) := BY.out.cell 1
  have kY_2 : x9.cell? ⟨y_, 2, none⟩ = some (.int .i64 v2) := BY.out.cell 2
  have kY_3 : x9.cell? ⟨y_, 3, none⟩ = some (.int .i64 v3) := BY.out.cell 3
  have kY_4 : x9.cell? ⟨y_, 4, none⟩ = some (.int .i64 v4) := BY.out.cell 4
  have kY_5 : x9.cell? ⟨y_, 5, none⟩ = some (.int .i64 v5) := BY.out.cell 5
  have kY_6 : x9.cell? ⟨y_, 6, none⟩ = some (.int .i64 v6) := BY.out.cell 6
  have cH := BH.out.cell
  have zH := BH.out.frozen
  have n_x_h_ : ¬ x_ = h_ := by omega
  have n_h_x_ : ¬ h_ = x_ := by omega
  have n_y_h_ : ¬ y_ = h_ := by omega
  have n_h_y_ : ¬ h_ = y_ := by omega
  go_wp2
  clear zH cH
  clear kX_0 kX_1 kX_2 kX_3 kX_4 kX_5 kX_6 kY_0 kY_1 kY_2 kY_3 kY_4 kY_5 kY_6
  generalize hwd : World.setCell _ ⟨h_, 6, none⟩ _ = wd
  have hwd2 : stores x9 h_ [.int .i64 u0, .int .i64 u1, .int .i64 u2, .int .i64 u3, .int .i64 u4, .int .i64 u5, .int .i64 u6] 0 = wd := hwd
  have D1 : Blk wd h_ 41 #[.int .i64 u0, .int .i64 u1, .int .i64 u2, .int .i64 u3, .int .i64 u4, .int .i64 u5, .int .i64 u6] := by rw [← hwd2]; exact BH.out.filled _ rfl
  have RD : Below w.heap.size w wd := by rw [← hwd2]; exact Below.stores (by omega) _ _ _ R10.out
  clear hwd hwd2
  have d1_0 : wd.cell? ⟨h_, 0, none⟩ = some (.int .i64 u0) := D1.cell 0
  have d1_1 : wd.cell? ⟨h_, 1, none⟩ = some (.int .i64 u1) := D1.cell 1
  have d1_2 : wd.cell? ⟨h_, 2, none⟩ = some (.int .i64 u2) := D1.cell 2
  have d1_3 : wd.cell? ⟨h_, 3, none⟩ = some (.int .i64 u3) := D1.cell 3
  have d1_4 : wd.cell? ⟨h_, 4, none⟩ = some (.int .i64 u4) := D1.cell 4
  have d1_5 : wd.cell? ⟨h_, 5, none⟩ = some (.int .i64 u5) := D1.cell 5
  have d1_6 : wd.cell? ⟨h_, 6, none⟩ = some (.int .i64 u6) := D1.cell 6
  try go_wp2_with fail
  refine bodyPost_ret (v := .tuple #[.agg #[.int .i64 u0, .int .i64 u1, .int .i64 u2, .int .i64 u3, .int .i64 u4, .int .i64 u5, .int .i64 u6], .int .i64 0, .int .i64 0]) (by simp [results, Try.results36, go_sem, *]) rfl ⟨rfl, RD⟩
set_option maxRecDepth 100000 in
set_option maxHeartbeats 4000000 in
theorem refNew_y2 (A1 : Option Addr) (n1 c1 : Nat) (la : List UInt8) (A2 : Option Addr) (n2 c2 : Nat) (lb : List UInt8) (w : World) (hva : Bytes w A1 n1 c1 la) (hvb : Bytes w A2 n2 c2 lb) (h1 : lvE la = 0) (h2 : lvE lb = 0) (h3 : lvN la 0 < lvN lb 0) :
    Calls Try.prog 36 #[.slice A1 n1 c1, .slice A2 n2 c2] w fun e w' => e = .returned (.tuple #[.agg #[.int .i64 (lvN lb 0), .int .i64 (lvN lb 1), .int .i64 (lvN lb 2), .int .i64 (lvN lb 3), .int .i64 (lvN lb 4), .int .i64 (lvN lb 5), .int .i64 (lvN lb 6)], .int .i64 1, .int .i64 0]) ∧ Below w.heap.size w w' := by
  have VA := Lib.hid hva
  have VB := Lib.hid hvb
  clear hva hvb
  have la1 := VA.out.le
  have la2 := VA.out.cap
  have lb1 := VB.out.le
  have lb2 := VB.out.cap
  obtain ⟨u0, hx0⟩ : ∃ u, lvN la 0 = u := ⟨_, rfl⟩
  obtain ⟨v0, hy0⟩ : ∃ v, lvN lb 0 = v := ⟨_, rfl⟩
  obtain ⟨u1, hx1⟩ : ∃ u, lvN la 1 = u := ⟨_, rfl⟩
  obtain ⟨v1, hy1⟩ : ∃ v, lvN lb 1 = v := ⟨_, rfl⟩
  obtain ⟨u2, hx2⟩ : ∃ u, lvN la 2 = u := ⟨_, rfl⟩
  obtain ⟨v2, hy2⟩ : ∃ v, lvN lb 2 = v := ⟨_, rfl⟩
  obtain ⟨u3, hx3⟩ : ∃ u, lvN la 3 = u := ⟨_, rfl⟩
  obtain ⟨v3, hy3⟩ : ∃ v, lvN lb 3 = v := ⟨_, rfl⟩
  obtain ⟨u4, hx4⟩ : ∃ u, lvN la 4 = u := ⟨_, rfl⟩
  obtain ⟨v4, hy4⟩ : ∃ v, lvN lb 4 = v := ⟨_, rfl⟩
  obtain ⟨u5, hx5⟩ : ∃ u, lvN la 5 = u := ⟨_, rfl⟩
  obtain ⟨v5, hy5⟩ : ∃ v, lvN lb 5 = v := ⟨_, rfl⟩
  obtain ⟨u6, hx6⟩ : ∃ u, lvN la 6 = u := ⟨_, rfl⟩
  obtain ⟨v6, hy6⟩ : ∃ v, lvN lb 6 = v := ⟨_, rfl⟩
  rw [hy0, hy1, hy2, hy3, hy4, hy5, hy6]
  rw [hx0, hy0] at h3
  have HNu0 := Lib.hid hx0
  have HNv0 := Lib.hid hy0
  have HNu1 := Lib.hid hx1
  have HNv1 := Lib.hid hy1
  have HNu2 := Lib.hid hx2
  have HNv2 := Lib.hid hy2
  have HNu3 := Lib.hid hx3
  have HNv3 := Lib.hid hy3
  have HNu4 := Lib.hid hx4
  have HNv4 := Lib.hid hy4
  have HNu5 := Lib.hid hx5
  have HNv5 := Lib.hid hy5
  have HNu6 := Lib.hid hx6
  have HNv6 := Lib.hid hy6
  clear hx0 hx1 hx2 hx3 hx4 hx5 hx6 hy0 hy1 hy2 hy3 hy4 hy5 hy6
  obtain ⟨ea, hea⟩ : ∃ ea, lvE la = ea := ⟨_, rfl⟩
  rw [hea] at h1
  have Hea := Lib.hid hea
  have ea1 : (ea != 0) = false := by simpa using h1
  have ea2 : (ea == 0) = true := by simpa using h1
  clear h1 hea
  obtain ⟨eb, heb⟩ : ∃ eb, lvE lb = eb := ⟨_, rfl⟩
  rw [heb] at h2
  have Heb := Lib.hid heb
  have eb1 : (eb != 0) = false := by simpa using h2
  have eb2 : (eb == 0) = true := by simpa using h2
  clear h2 heb
  have c3 : u0 < v0 := h3
  clear h3
  have c4 : decide (u0 < v0) = true := by simpa using c3
  go_enter Try.func36, Try.ntmps36
  go_upto_region 1 with fail
  obtain ⟨x1, h_, ex1, eh_⟩ : ∃ x1 h_, x1 = w.alloc (.cells #[.int .i64 0, .int .i64 0, .int .i64 0, .int .i64 0, .int .i64 0, .int .i64 0, .int .i64 0] 41) ∧ h_ = w.heap.size := ⟨_, _, rfl, rfl⟩
  rw [← ex1, ← eh_]
  have hbx : Below w.heap.size w x1 := by rw [ex1]; exact below_alloc1 _ _ 
  have g_H : w.heap.size ≤ h_ := by rw [eh_]; exact Nat.le_refl _
  have VA := Lib.hid (VA.out.stays hbx)
  have VB := Lib.hid (VB.out.stays hbx)
  have BH := Lib.hid (show Blk x1 h_ 41 #[.int .i64 0, .int .i64 0, .int .i64 0, .int .i64 0, .int .i64 0, .int .i64 0, .int .i64 0] by rw [ex1, eh_]; exact blk_new1_0 _ _ _ )
  have R2 := Lib.hid hbx
  have hz_x1 := R2.out.size
  clear hbx ex1 eh_
  go_wp2_with fail
  refine (refLoad_any _ _ _ la _ VA.out).mono ?_
  rintro e y3 ⟨rfl, hb⟩
  rw [Hea.out]
  rw [show lvN la 0 = u0 from HNu0.out]
  rw [show lvN la 1 = u1 from HNu1.out]
  rw [show lvN la 2 = u2 from HNu2.out]
  rw [show lvN la 3 = u3 from HNu3.out]
  rw [show lvN la 4 = u4 from HNu4.out]
  rw [show lvN la 5 = u5 from HNu5.out]
  rw [show lvN la 6 = u6 from HNu6.out]
  have hbx : Below x1.heap.size x1 y3 := below_via (by go_grown) hb (by first | (simp; done) | (simp; omega))
  have BH := Lib.hid (BH.out.stays hbx)
  have VA := Lib.hid (VA.out.stays hbx)
  have VB := Lib.hid (VB.out.stays hbx)
  have R4 := Lib.hid (R2.out.trans (hbx.mono hz_x1))
  have hz_y3 := R4.out.size
  clear hb hbx R2 hz_x1
  go_upto_region 2 with fail
  obtain ⟨x5, x_, ex5, ex_⟩ : ∃ x5 x_, x5 = y3.alloc (.cells #[.int .i64 u0, .int .i64 u1, .int .i64 u2, .int .i64 u3, .int .i64 u4, .int .i64 u5, .int .i64 u6] 41) ∧ x_ = y3.heap.size := ⟨_, _, rfl, rfl⟩
  rw [← ex5, ← ex_]
  have hbx : Below y3.heap.size y3 x5 := by rw [ex5]; exact below_alloc1 _ _ 
  have o_H_X : h_ < x_ := by rw [ex_]; exact BH.out.lt
  have g_X : w.heap.size ≤ x_ := by rw [ex_]; exact hz_y3
  have BH := Lib.hid (BH.out.stays hbx)
  have VA := Lib.hid (VA.out.stays hbx)
  have VB := Lib.hid (VB.out.stays hbx)
  have BX := Lib.hid (show Blk x5 x_ 41 #[.int .i64 u0, .int .i64 u1, .int .i64 u2, .int .i64 u3, .int .i64 u4, .int .i64 u5, .int .i64 u6] by rw [ex5, ex_]; exact blk_new1_0 _ _ _ )
  have R6 := Lib.hid (R4.out.trans (hbx.mono hz_y3))
  have hz_x5 := R6.out.size
  clear hbx ex5 ex_ R4 hz_y3
  go_wp2_with fail
  refine (refLoad_any _ _ _ lb _ VB.out).mono ?_
  rintro e y7 ⟨rfl, hb⟩
  rw [Heb.out]
  rw [show lvN lb 0 = v0 from HNv0.out]
  rw [show lvN lb 1 = v1 from HNv1.out]
  rw [show lvN lb 2 = v2 from HNv2.out]
  rw [show lvN lb 3 = v3 from HNv3.out]
  rw [show lvN lb 4 = v4 from HNv4.out]
  rw [show lvN lb 5 = v5 from HNv5.out]
  rw [show lvN lb 6 = v6 from HNv6.out]
  have hbx : Below x5.heap.size x5 y7 := below_via (by go_grown) hb (by first | (simp; done) | (simp; omega))
  have BH := Lib.hid (BH.out.stays hbx)
  have BX := Lib.hid (BX.out.stays hbx)
  have VA := Lib.hid (VA.out.stays hbx)
  have VB := Lib.hid (VB.out.stays hbx)
  have R8 := Lib.hid (R6.out.trans (hbx.mono hz_x5))
  have hz_y7 := R8.out.size
  clear hb hbx R6 hz_x5
  go_upto_region 3 with fail
  obtain ⟨x9, y_, ex9, ey_⟩ : ∃ x9 y_, x9 = y7.alloc (.cells #[.int .i64 v0, .int .i64 v1, .int .i64 v2, .int .i64 v3, .int .i64 v4, .int .i64 v5, .int .i64 v6] 41) ∧ y_ = y7.heap.size := ⟨_, _, rfl, rfl⟩
  rw [← ex9, ← ey_]
  have hbx : Below y7.heap.size y7 x9 := by rw [ex9]; exact below_alloc1 _ _ 
  have o_H_Y : h_ < y_ := by rw [ey_]; exact BH.out.lt
  have o_X_Y : x_ < y_ := by rw [ey_]; exact BX.out.lt
  have g_Y : w.heap.size ≤ y_ := by rw [ey_]; exact hz_y7
  have BH := Lib.hid (BH.out.stays hbx)
  have BX := Lib.hid (BX.out.stays hbx)
  have VA := Lib.hid (VA.out.stays hbx)
  have VB := Lib.hid (VB.out.stays hbx)
  have BY := Lib.hid (show Blk x9 y_ 41 #[.int .i64 v0, .int .i64 v1, .int .i64 v2, .int .i64 v3, .int .i64 v4, .int .i64 v5, .int .i64 v6] by rw [ex9, ey_]; exact blk_new1_0 _ _ _ )
  have R10 := Lib.hid (R8.out.trans (hbx.mono hz_y7))
  have hz_x9 := R10.out.size
  clear hbx ex9 ey_ R8 hz_y7
  have kX_0 : x9.cell? ⟨x_, 0, none⟩ = some (.int .i64 u0) := BX.out.cell 0
  have kX_1 : x9.cell? ⟨x_, 1, none⟩ = some (.int .i64 u1) := BX.out.cell 1
  have kX_2 : x9.cell? ⟨x_, 2, none⟩ = some (.int .i64 u2) := BX.out.cell 2
  have kX_3 : x9.cell? ⟨x_, 3, none⟩ = some (.int .i64 u3) := BX.out.cell 3
  have kX_4 : x9.cell? ⟨x_, 4, none⟩ = some (.int .i64 u4) := BX.out.cell 4
  have kX_5 : x9.cell? ⟨x_, 5, none⟩ = some (.int .i64 u5) := BX.out.cell 5
  have kX_6 : x9.cell? ⟨x_, 6, none⟩ = some (.int .i64 u6) := BX.out.cell 6
  have kY_0 : x9.cell? ⟨y_, 0, none⟩ = some (.int .i64 v0) := BY.out.cell 0
  have kY_1 : x9.cell? ⟨y_, 1, none⟩ = some (.int .i64 v1) := BY.out.cell 1
  have kY_2 : x9.cell? ⟨y_, 2, none⟩ = some (.int .i64 v2) := BY.out.cell 2
  have kY_3 : x9.cell? ⟨y_, 3, none⟩ = some (.int .i64 v3) := BY.out.cell 3
  have kY_4 : x9.cell? ⟨y_, 4, none⟩ = some (.int .i64 v4) := BY.out.cell 4
  have kY_5 : x9.cell? ⟨y_, 5, none⟩ = some (.int .i64 v5) := BY.out.cell 5
  have kY_6 : x9.cell? ⟨y_, 6, none⟩ = some (.int .i64 v6) := BY.out.cell 6
  have cH := BH.out.cell
  have zH := BH.out.frozen
  have n_x_h_ : ¬ x_ = h_ := by omega
  have n_h_x_ : ¬ h_ = x_ := by omega
  have n_y_h_ : ¬ y_ = h_ := by omega
  have n_h_y_ : ¬ h_ = y_ := by omega
  go_wp2
  clear zH cH
  clear kX_0 kX_1 kX_2 kX_3 kX_4 kX_5 kX_6 kY_0 kY_1 kY_2 kY_3 kY_4 kY_5 kY_6
  generalize hwd : World.setCell _ ⟨h_, 6, none⟩ _ = wd
  have hwd2 : stores x9 h_ [.int .i64 v0, .int .i64 v1, .int .i64 v2, .int .i64 v3, .int .i64 v4, .int .i64 v5, .int .i64 v6] 0 = wd := hwd
  have D1 : Blk wd h_ 41 #[.int .i64 v0, .int .i64 v1, .int .i64 v2, .int .i64 v3, .int .i64 v4, .int .i64 v5, .int .i64 v6] := by rw [← hwd2]; exact BH.out.filled _ rfl
  have RD : Below w.heap.size w wd := by rw [← hwd2]; exact Below.stores (by omega) _ _ _ R10.out
  clear hwd hwd2
  have d1_0 : wd.cell? ⟨h_, 0, none⟩ = some (.int .i64 v0) := D1.cell 0
  have d1_1 : wd.cell? ⟨h_, 1, none⟩ = some (.int .i64 v1) := D1.cell 1
  have d1_2 : wd.cell? ⟨h_, 2, none⟩ = some (.int .i64 v2) := D1.cell 2
  have d1_3 : wd.cell? ⟨h_, 3, none⟩ = some (.int .i64 v3) := D1.cell 3
  have d1_4 : wd.cell? ⟨h_, 4, none⟩ = some (.int .i64 v4) := D1.cell 4
  have d1_5 : wd.cell? ⟨h_, 5, none⟩ = some (.int .i64 v5) := D1.cell 5
  have d1_6 : wd.cell? ⟨h_, 6, none⟩ = some (.int .i64 v6) := D1.cell 6
  try go_wp2_with fail
  refine bodyPost_ret (v := .tuple #[.agg #[.int .i64 v0, .int .i64 v1, .int .i64 v2, .int .i64 v3, .int .i64 v4, .int .i64 v5, .int .i64 v6], .int .i64 1, .int .i64 0]) (by simp [results, Try.results36, go_sem, *]) rfl ⟨rfl, RD⟩
set_option maxRecDepth 100000 in
set_option maxHeartbeats 4000000 in
theorem refNew_x2 (A1 : Option Addr) (n1 c1 : Nat) (la : List UInt8) (A2 : Option Addr) (n2 c2 : Nat) (lb : List UInt8) (w : World) (hva : Bytes w A1 n1 c1 la) (hvb : Bytes w A2 n2 c2 lb) (h1 : lvE la = 0) (h2 : lvE lb = 0) (h3 : ¬ lvN la 0 < lvN lb 0) :
    Calls Try.prog 36 #[.slice A1 n1 c1, .slice A2 n2 c2] w fun e w' => e = .returned (.tuple #[.agg #[.int .i64 (lvN la 0), .int .i64 (lvN la 1), .int .i64 (lvN la 2), .int .i64 (lvN la 3), .int .i64 (lvN la 4), .int .i64 (lvN la 5), .int .i64 (lvN la 6)], .int .i64 0, .int .i64 0]) ∧ Below w.heap.size w w' := by
  have VA := Lib.hid hva
  have VB := Lib.hid hvb
  clear hva hvb
  have la1 := VA.out.le
  have la2 := VA.out.cap
  have lb1 := VB.out.le
  have lb2 := VB.out.cap
  obtain ⟨u0, hx0⟩ : ∃ u, lvN la 0 = u := ⟨_, rfl⟩
  obtain ⟨v0, hy0⟩ : ∃ v, lvN lb 0 = v := ⟨_, rfl⟩
  obtain ⟨u1, hx1⟩ : ∃ u, lvN la 1 = u := ⟨_, rfl⟩
  obtain ⟨v1, hy1⟩ : ∃ v, lvN lb 1 = v := ⟨_, rfl⟩
  obtain ⟨u2, hx2⟩ : ∃ u, lvN la 2 = u := ⟨_, rfl⟩
  obtain ⟨v2, hy2⟩ : ∃ v, lvN lb 2 = v := ⟨_, rfl⟩
  obtain ⟨u3, hx3⟩ : ∃ u, lvN la 3 = u := ⟨_, rfl⟩
  obtain ⟨v3, hy3⟩ : ∃ v, lvN lb 3 = v := ⟨_, rfl⟩
  obtain ⟨u4, hx4⟩ : ∃ u, lvN la 4 = u := ⟨_, rfl⟩
  obtain ⟨v4, hy4⟩ : ∃ v, lvN lb 4 = v := ⟨_, rfl⟩
  obtain ⟨u5, hx5⟩ : ∃ u, lvN la 5 = u := ⟨_, rfl⟩
  obtain ⟨v5, hy5⟩ : ∃ v, lvN lb 5 = v := ⟨_, rfl⟩
  obtain ⟨u6, hx6⟩ : ∃ u, lvN la 6 = u := ⟨_, rfl⟩
  obtain ⟨v6, hy6⟩ : ∃ v, lvN lb 6 = v := ⟨_, rfl⟩
  rw [hx0, hx1, hx2, hx3, hx4, hx5, hx6]
  rw [hx0, hy0] at h3
  have HNu0 := Lib.hid hx0
  have HNv0 := Lib.hid hy0
  have HNu1 := Lib.hid hx1
  have HNv1 := Lib.hid hy1
  have HNu2 := Lib.hid hx2
  have HNv2 := Lib.hid hy2
  have HNu3 := Lib.hid hx3
  have HNv3 := Lib.hid hy3
  have HNu4 := Lib.hid hx4
  have HNv4 := Lib.hid hy4
  have HNu5 := Lib.hid hx5
  have HNv5 := Lib.hid hy5
  have HNu6 := Lib.hid hx6
  have HNv6 := Lib.hid hy6
  clear hx0 hx1 hx2 hx3 hx4 hx5 hx6 hy0 hy1 hy2 hy3 hy4 hy5 hy6
  obtain ⟨ea, hea⟩ : ∃ ea, lvE la = ea := ⟨_, rfl⟩
  rw [hea] at h1
  have Hea := Lib.hid hea
  have ea1 : (ea != 0) = false := by simpa using h1
  have ea2 : (ea == 0) = true := by simpa using h1
  clear h1 hea
  obtain ⟨eb, heb⟩ : ∃ eb, lvE lb = eb := ⟨_, rfl⟩
  rw [heb] at h2
  have Heb := Lib.hid heb
  have eb1 : (eb != 0) = false := by simpa using h2
  have eb2 : (eb == 0) = true := by simpa using h2
  clear h2 heb
  have c3 : ¬ u0 < v0 := h3
  clear h3
  have c4 : decide (u0 < v0) = false := by simpa using c3
  go_enter Try.func36, Try.ntmps36
  go_upto_region 1 with fail
  obtain ⟨x1, h_, ex1, eh_⟩ : ∃ x1 h_, x1 = w.alloc (.cells #[.int .i64 0, .int .i64 0, .int .i64 0, .int .i64 0, .int .i64 0, .int .i64 0, .int .i64 0] 41) ∧ h_ = w.heap.size := ⟨_, _, rfl, rfl⟩
  rw [← ex1, ← eh_]
  have hbx : Below w.heap.size w x1 := by rw [ex1]; exact below_alloc1 _ _ 
  have g_H : w.heap.size ≤ h_ := by rw [eh_]; exact Nat.le_refl _
  have VA := Lib.hid (VA.out.stays hbx)
  have VB := Lib.hid (VB.out.stays hbx)
  have BH := Lib.hid (show Blk x1 h_ 41 #[.int .i64 0, .int .i64 0, .int .i64 0, .int .i64 0, .int .i64 0, .int .i64 0, .int .i64 0] by rw [ex1, eh_]; exact blk_new1_0 _ _ _ )
  have R2 := Lib.hid hbx
  have hz_x1 := R2.out.size
  clear hbx ex1 eh_
  go_wp2_with fail
  refine (refLoad_any _ _ _ la _ VA.out).mono ?_
  rintro e y3 ⟨rfl, hb⟩
  rw [Hea.out]
  rw [show lvN la 0 = u0 from HNu0.out]
  rw [show lvN la 1 = u1 from HNu1.out]
  rw [show lvN la 2 = u2 from HNu2.out]
  rw [show lvN la 3 = u3 from HNu3.out]
  rw [show lvN la 4 = u4 from HNu4.out]
  rw [show lvN la 5 = u5 from HNu5.out]
  rw [show lvN la 6 = u6 from HNu6.out]
  have hbx : Below x1.heap.size x1 y3 := below_via (by go_grown) hb (by first | (simp; done) | (simp; omega))
  have BH := Lib.hid (BH.out.stays hbx)
  have VA := Lib.hid (VA.out.stays hbx)
  have VB := Lib.hid (VB.out.stays hbx)
  have R4 := Lib.hid (R2.out.trans (hbx.mono hz_x1))
  have hz_y3 := R4.out.size
  clear hb hbx R2 hz_x1
  go_upto_region 2 with fail
  obtain ⟨x5, x_, ex5, ex_⟩ : ∃ x5 x_, x5 = y3.alloc (.cells #[.int .i64 u0, .int .i64 u1, .int .i64 u2, .int .i64 u3, .int .i64 u4, .int .i64 u5, .int .i64 u6] 41) ∧ x_ = y3.heap.size := ⟨_, _, rfl, rfl⟩
  rw [← ex5, ← ex_]
  have hbx : Below y3.heap.size y3 x5 := by rw [ex5]; exact below_alloc1 _ _ 
  have o_H_X : h_ < x_ := by rw [ex_]; exact BH.out.lt
  have g_X : w.heap.size ≤ x_ := by rw [ex_]; exact hz_y3
  have BH := Lib.hid (BH.out.stays hbx)
  have VA := Lib.hid (VA.out.stays hbx)
  have VB := Lib.hid (VB.out.stays hbx)
  have BX := Lib.hid (show Blk x5 x_ 41 #[.int .i64 u0, .int .i64 u1, .int .i64 u2, .int .i64 u3, .int .i64 u4, .int .i64 u5, .int .i64 u6] by rw [ex5, ex_]; exact blk_new1_0 _ _ _ )
  have R6 := Lib.hid (R4.out.trans (hbx.mono hz_y3))
  have hz_x5 := R6.out.size
  clear hbx ex5 ex_ R4 hz_y3
  go_wp2_with fail
  refine (refLoad_any _ _ _ lb _ VB.out).mono ?_
  rintro e y7 ⟨rfl, hb⟩
  rw [Heb.out]
  rw [show lvN lb 0 = v0 from HNv0.out]
  rw [show lvN lb 1 = v1 from HNv1.out]
  rw [show lvN lb 2 = v2 from HNv2.out]
  rw [show lvN lb 3 = v3 from HNv3.out]
  rw [show lvN lb 4 = v4 from HNv4.out]
  rw [show lvN lb 5 = v5 from HNv5.out]
  rw [show lvN lb 6 = v6 from HNv6.out]
  have hbx : Below x5.heap.size x5 y7 := below_via (by go_grown) hb (by first | (simp; done) | (simp; omega))
  have BH := Lib.hid (BH.out.stays hbx)
  have BX := Lib.hid (BX.out.stays hbx)
  have VA := Lib.hid (VA.out.stays hbx)
  have VB := Lib.hid (VB.out.stays hbx)
  have R8 := Lib.hid (R6.out.trans (hbx.mono hz_x5))
  have hz_y7 := R8.out.size
  clear hb hbx R6 hz_x5
  go_upto_region 3 with fail
  obtain ⟨x9, y_, ex9, ey_⟩ : ∃ x9 y_, x9 = y7.alloc (.cells #[.int .i64 v0, .int .i64 v1, .int .i64 v2, .int .i64 v3, .int .i64 v4, .int .i64 v5, .int .i64 v6] 41) ∧ y_ = y7.heap.size := ⟨_, _, rfl, rfl⟩
  rw [← ex9, ← ey_]
  have hbx : Below y7.heap.size y7 x9 := by rw [ex9]; exact below_alloc1 _ _ 
  have o_H_Y : h_ < y_ := by rw [ey_]; exact BH.out.lt
  have o_X_Y : x_ < y_ := by rw [ey_]; exact BX.out.lt
  have g_Y : w.heap.size ≤ y_ := by rw [ey_]; exact hz_y7
  have BH := Lib.hid (BH.out.stays hbx)
  have BX := Lib.hid (BX.out.stays hbx)
  have VA := Lib.hid (VA.out.stays hbx)
  have VB := Lib.hid (VB.out.stays hbx)
  have BY := Lib.hid (show Blk x9 y_ 41 #[.int .i64 v0, .int .i64 v1, .int .i64 v2, .int .i64 v3, .int .i64 v4, .int .i64 v5, .int .i64 v6] by rw [ex9, ey_]; exact blk_new1_0 _ _ _ )
  have R10 := Lib.hid (R8.out.trans (hbx.mono hz_y7))
  have hz_x9 := R10.out.size
  clear hbx ex9 ey_ R8 hz_y7
  have kX_0 : x9.cell? ⟨x_, 0, none⟩ = some (.int .i64 u0) := BX.out.cell 0
  have kX_1 : x9.cell? ⟨x_, 1, none⟩ = some (.int .i64 u1) := BX.out.cell 1
  have kX_2 : x9.cell? ⟨x_, 2, none⟩ = some (.int .i64 u2) := BX.out.cell 2
  have kX_3 : x9.cell? ⟨x_, 3, none⟩ = some (.int .i64 u3) := BX.out.cell 3
  have kX_4 : x9.cell? ⟨x_, 4, none⟩ = some (.int .i64 u4) := BX.out.cell 4
  have kX_5 : x9.cell? ⟨x_, 5, none⟩ = some (.int .i64 u5) := BX.out.cell 5
  have kX_6 : x9.cell? ⟨x_, 6, none⟩ = some (.int .i64 u6) := BX.out.cell 6
  have kY_0 : x9.cell? ⟨y_, 0, none⟩ = some (.int .i64 v0) := BY.out.cell 0
  have kY_1 : x9.cell? ⟨y_, 1, none⟩ = some (.int .i64 v1) := BY.out.cell 1
  have kY_2 : x9.cell? ⟨y_, 2, none⟩ = some (.int .i64 v2) := BY.out.cell 2
  have kY_3 : x9.cell? ⟨y_, 3, none⟩ = some (.int .i64 v3) := BY.out.cell 3
  have kY_4 : x9.cell? ⟨y_, 4, none⟩ = some (.int .i64 v4) := BY.out.cell 4
  have kY_5 : x9.cell? ⟨y_, 5, none⟩ = some (.int .i64 v5) := BY.out.cell 5
  have kY_6 : x9.cell? ⟨y_, 6, none⟩ = some (.int .i64 v6) := BY.out.cell 6
  have cH := BH.out.cell
  have zH := BH.out.frozen
  have n_x_h_ : ¬ x_ = h_ := by omega
  have n_h_x_ : ¬ h_ = x_ := by omega
  have n_y_h_ : ¬ y_ = h_ := by omega
  have n_h_y_ : ¬ h_ = y_ := by omega
  go_wp2
  clear zH cH
  clear kX_0 kX_1 kX_2 kX_3 kX_4 kX_5 kX_6 kY_0 kY_1 kY_2 kY_3 kY_4 kY_5 kY_6
  generalize hwd : World.setCell _ ⟨h_, 6, none⟩ _ = wd
  have hwd2 : stores x9 h_ [.int .i64 u0, .int .i64 u1, .int .i64 u2, .int .i64 u3, .int .i64 u4, .int .i64 u5, .int .i64 u6] 0 = wd := hwd
  have D1 : Blk wd h_ 41 #[.int .i64 u0, .int .i64 u1, .int .i64 u2, .int .i64 u3, .int .i64 u4, .int .i64 u5, .int .i64 u6] := by rw [← hwd2]; exact BH.out.filled _ rfl
  have RD : Below w.heap.size w wd := by rw [← hwd2]; exact Below.stores (by omega) _ _ _ R10.out
  clear hwd hwd2
  have d1_0 : wd.cell? ⟨h_, 0, none⟩ = some (.int .i64 u0) := D1.cell 0
  have d1_1 : wd.cell? ⟨h_, 1, none⟩ = some (.int .i64 u1) := D1.cell 1
  have d1_2 : wd.cell? ⟨h_, 2, none⟩ = some (.int .i64 u2) := D1.cell 2
  have d1_3 : wd.cell? ⟨h_, 3, none⟩ = some (.int .i64 u3) := D1.cell 3
  have d1_4 : wd.cell? ⟨h_, 4, none⟩ = some (.int .i64 u4) := D1.cell 4
  have d1_5 : wd.cell? ⟨h_, 5, none⟩ = some (.int .i64 u5) := D1.cell 5
  have d1_6 : wd.cell? ⟨h_, 6, none⟩ = some (.int .i64 u6) := D1.cell 6
  try go_wp2_with fail
  refine bodyPost_ret (v := .tuple #[.agg #[.int .i64 u0, .int .i64 u1, .int .i64 u2, .int .i64 u3, .int .i64 u4, .int .i64 u5, .int .i64 u6], .int .i64 0, .int .i64 0]) (by simp [results, Try.results36, go_sem, *]) rfl ⟨rfl, RD⟩
theorem refNew_any (A1 : Option Addr) (n1 c1 : Nat) (la : List UInt8) (A2 : Option Addr) (n2 c2 : Nat) (lb : List UInt8) (w : World) (hva : Bytes w A1 n1 c1 la) (hvb : Bytes w A2 n2 c2 lb) :
    Calls Try.prog 36 #[.slice A1 n1 c1, .slice A2 n2 c2] w fun e w' => e = .returned (.tuple #[.agg #[.int .i64 (nvN la lb 0), .int .i64 (nvN la lb 1), .int .i64 (nvN la lb 2), .int .i64 (nvN la lb 3), .int .i64 (nvN la lb 4), .int .i64 (nvN la lb 5), .int .i64 (nvN la lb 6)], .int .i64 (nvW la lb), .int .i64 (nvE la lb)]) ∧ Below w.heap.size w w' := by
  by_cases h1 : lvE la = 0
  · by_cases h2 : lvE lb = 0
    · by_cases h3 : lvN la 0 < lvN lb 0
      · skip
        obtain ⟨e1, e2, e3⟩ := nv_y la lb (show nwK la lb = 1 by unfold nwK; rw [if_neg (fun h => h.1 h1), if_pos (.inr ⟨h2, h3⟩)])
        rw [e2, e3, e1 0, e1 1, e1 2, e1 3, e1 4, e1 5, e1 6]
        exact refNew_y2 A1 n1 c1 la A2 n2 c2 lb w hva hvb h1 h2 h3
      · skip
        obtain ⟨e1, e2, e3⟩ := nv_x la lb (show nwK la lb = 0 by unfold nwK; rw [if_neg (fun h => h.1 h1), if_neg (fun h => h.elim (fun g => g h1) (fun g => h3 g.2))])
        rw [e2, e3, e1 0, e1 1, e1 2, e1 3, e1 4, e1 5, e1 6]
        exact refNew_x2 A1 n1 c1 la A2 n2 c2 lb w hva hvb h1 h2 h3
    · skip
      obtain ⟨e1, e2, e3⟩ := nv_x la lb (show nwK la lb = 0 by unfold nwK; rw [if_neg (fun h => h.1 h1), if_neg (fun h => h.elim (fun g => g h1) (fun g => h2 g.1))])
      rw [e2, e3, e1 0, e1 1, e1 2, e1 3, e1 4, e1 5, e1 6]
      exact refNew_x1 A1 n1 c1 la A2 n2 c2 lb w hva hvb h1 h2
  · by_cases h2 : lvE lb = 0
    · skip
      obtain ⟨e1, e2, e3⟩ := nv_y la lb (show nwK la lb = 1 by unfold nwK; rw [if_neg (fun h => h.2 h2), if_pos (.inl h1)])
      rw [e2, e3, e1 0, e1 1, e1 2, e1 3, e1 4, e1 5, e1 6]
      exact refNew_y1 A1 n1 c1 la A2 n2 c2 lb w hva hvb h1 h2
    · skip
      obtain ⟨e1, e2, e3⟩ := nv_none la lb (show nwK la lb = 2 by unfold nwK; rw [if_pos ⟨h1, h2⟩])
      rw [e2, e3, e1 0, e1 1, e1 2, e1 3, e1 4, e1 5, e1 6]
      exact refNew_none A1 n1 c1 la A2 n2 c2 lb w hva hvb h1 h2
end Go.Proofs.Ytbjmojajhkhekaa
