import Derived.BigRegion
import Derived.Deep.DeepCutAuto
import Derived.Test.YtiemnacoebkalaaGreatTaV08
set_option linter.all false
set_option maxRecDepth 100000
set_option maxHeartbeats 4000000
namespace Go.Proofs.YtiemnacoebkalaaGreat
open Go Go.RowKit
theorem double_any (x : UInt8) (w : World) : Calls Tryz.prog 160 #[.int .u8 x.toNat] w fun e w' => e = .returned (.int .u8 (dblU x).toNat) ∧ w = w' := by
 have hx := UInt8.toNat_lt x; obtain ⟨n, hn⟩ : ∃ n, x.toNat = n := ⟨_, rfl⟩; have HD : Hid ((dblU x).toNat = if n < 128 then (UInt8.ofNat (2 * n)).toNat else (UInt8.ofNat (2 * n - 256) ^^^ 27).toNat) := by unfold Hid dblU; rw [hn]; split <;> rfl
 rw [hn] at hx ⊢
 by_cases h : n < 128
 · have a1 := dbl_lo n hx h; have a2 : IntKind.u8.wrap ((n : Int) * 2) = (n : Int) * 2 := IntWalk.u8_in _ (by omega); have HE : Hid ((n : Int) * 2 = ((dblU x).toNat : Int)) := by unfold Hid; rw [HD.out, if_pos h]; simp; omega
   go_enter Tryz.func160, Tryz.ntmps160
   go_wp2; go_ret; exact ⟨by rw [<- HE.out]; rfl, rfl⟩
 · have a1 := dbl_hi n hx h; obtain ⟨m, hm⟩ : ∃ m : Nat, 2 * n - 256 = m := ⟨_, rfl⟩; have a2 : IntKind.u8.wrap ((n : Int) * 2) = (m : Int) := by simp only [IntKind.wrap_u8]; omega
   have a3 := dbl_xor m (by omega); rw [hm] at HD; obtain ⟨z, hz⟩ : ∃ z, (UInt8.ofNat m ^^^ 27).toNat = z := ⟨_, rfl⟩; rw [hz] at a3 HD; have HE : Hid (z = (dblU x).toNat) := by unfold Hid; rw [HD.out, if_neg h]
   clear hz
   go_enter Tryz.func160, Tryz.ntmps160
   go_wp2; go_ret; exact ⟨by rw [<- HE.out]; rfl, rfl⟩
theorem grown_drewN {w wr : World} {r : Option Nat} (h : w.grownBy wr r) (n : Nat) : w.grownBy (wr.drewN n) r := ⟨h.os, h.tape, h.output, h.size, h.block⟩
def At (w : World) (b o : Nat) (l : List UInt8) : Prop := b < w.heap.size ∧ ∀ i, i < l.length -> w.cell? ⟨b, o + i, none⟩ = some (.int .u8 (byteAt l i))
theorem At.grown {w w' : World} {b o : Nat} {l : List UInt8} {row : Option Nat} (h : At w b o l) (hg : w.grownBy w' row) (hne : some b ≠ row) : At w' b o l :=
 ⟨Nat.lt_of_lt_of_le h.1 hg.size, fun i hi => (World.cell?_of_block (a := ⟨b, o + i, none⟩) (hg.block b h.1 hne)).trans (h.2 i hi)⟩
theorem At.of_blk {w : World} {b : Nat} {T : TypeId} {l : List UInt8} (h : Blk w b T (bytesC l)) : At w b 0 l :=
 ⟨h.lt, fun i hi => by rw [Nat.zero_add, h.cell, bytesC_at hi]⟩
theorem blockXor_any (b o c : Nat) (T : TypeId) (l m : List UInt8) (w : World) (hb : Blk w b T (bytesC l)) (hl : l.length = 16) (hm : At w c o m) (hml : m.length = 16) (hne : c ≠ b) : Calls Tryz.prog 161 #[.pointer (some ⟨b, 0, none⟩), .pointer (some ⟨c, o, none⟩)] w fun e w' => e = .returned undef ∧ Blk w' b T (bytesC (xorB l m)) ∧ w.grownBy w' (some b) := by
 have HB := qq hb; have HM := qq hm; have HL := qq hl; have HML := qq hml; clear hb hm hl hml
 go_enter Tryz.func161, Tryz.ntmps161
 go_wp2_with fail
 go_loopw [7] (fun i wr => ∃ k : Nat, k <= 16 ∧ i = .int .i64 k ∧ Hid (Blk wr b T (bytesC (setsL (fun s i => bU s i ^^^ bU m i) id l k))) ∧ w.grownBy wr (some b)) (fun i _ => 16 - (intOf i).toNat)
 case atStart => exact ⟨0, by omega, rfl, HB.out, World.grownBy.refl _ _⟩
 case round =>
  obtain ⟨k, hk, rfl, BB, hg⟩ := hrel; have HG := qq hg; clear hg
  by_cases hk16 : k < 16
  · obtain ⟨s, hs⟩ : ∃ s, setsL (fun s i => bU s i ^^^ bU m i) id l k = s := ⟨_, rfl⟩; have HN : Hid (setsL (fun s i => bU s i ^^^ bU m i) id l (k + 1) = s.set k (bU s k ^^^ bU m k)) := by unfold Hid; rw [setsL, hs]; rfl
    have hsl : s.length = 16 := by rw [<- hs, setsL_length, HL.out]
    rw [hs] at BB; have c1 : wr.cell? ⟨b, k, none⟩ = some (.int .u8 (byteAt s k)) := by rw [BB.out.cell, bytesC_at (by omega)]
    have c2 : wr.cell? ⟨c, o + k, none⟩ = some (.int .u8 (byteAt m k)) := (HM.out.grown HG.out (by simpa using hne)).2 k (by have := HML.out; omega); have f1 : wr.frozen? ⟨b, k, none⟩ = false := BB.out.frozen k; obtain ⟨x, hx⟩ : ∃ x, bU s k = x := ⟨_, rfl⟩; obtain ⟨y, hy⟩ : ∃ y, bU m k = y := ⟨_, rfl⟩; rw [byteAt_bU, hx] at c1; rw [byteAt_bU, hy] at c2; rw [hx, hy] at HN; have hX := xor_u8 x y; obtain ⟨z, hz⟩ : ∃ z, x ^^^ y = z := ⟨_, rfl⟩; rw [hz] at HN hX; have i0 : (0 : Int) <= (k : Int) := by omega
    have i1 : (k : Int) < 16 := by omega
    clear hs hx hy hz hsl
    go_wp2_with fail
    go_quiet (fail)
    go_wp2_with fail
    refine region_tail 9 (by kernel_rfl) (by kernel_rfl) ?_; simp only [List.take_succ_cons, List.take_zero, List.drop_succ_cons, List.drop_zero]
    repeat ((with_reducible refine wpStill_step (fun K hK => ?_)); go_simp; (with_reducible refine hK _ ?_); clear hK K)
    refine wpStill_nil ?_; go_wp2
    go_roundw
    case rel =>
     refine ⟨k + 1, by omega, by go_num, ?_, ?_⟩
     · rw [HN.out, <- bytesC_set]; exact Blk.put BB.out k (byteV z)
     · exact grown_put (grown_drewN HG.out _) k _
    case measure => simp [intOf]; omega
  · obtain rfl : k = 16 := by omega
    go_wp2
    go_end0
    exact ⟨rfl, BB.out, HG.out⟩
theorem box_at (y : UInt8) (h' : y.toNat < (⟨#[99, 124, 119, 123, 242, 107, 111, 197, 48, 1, 103, 43, 254, 215, 171, 118, 202, 130, 201, 125, 250, 89, 71, 240, 173, 212, 162, 175, 156, 164, 114, 192, 183, 253, 147, 38, 54, 63, 247, 204, 52, 165, 229, 241, 113, 216, 49, 21, 4, 199, 35, 195, 24, 150, 5, 154, 7, 18, 128, 226, 235, 39, 178, 117, 9, 131, 44, 26, 27, 110, 90, 160, 82, 59, 214, 179, 41, 227, 47, 132, 83, 209, 0, 237, 32, 252, 177, 91, 106, 203, 190, 57, 74, 76, 88, 207, 208, 239, 170, 251, 67, 77, 51, 133, 69, 249, 2, 127, 80, 60, 159, 168, 81, 163, 64, 143, 146, 157, 56, 245, 188, 182, 218, 33, 16, 255, 243, 210, 205, 12, 19, 236, 95, 151, 68, 23, 196, 167, 126, 61, 100, 93, 25, 115, 96, 129, 79, 220, 34, 42, 144, 136, 70, 238, 184, 20, 222, 94, 11, 219, 224, 50, 58, 10, 73, 6, 36, 92, 194, 211, 172, 98, 145, 149, 228, 121, 231, 200, 55, 109, 141, 213, 78, 169, 108, 86, 244, 234, 101, 122, 174, 8, 186, 120, 37, 46, 28, 166, 180, 198, 232, 221, 116, 31, 75, 189, 139, 138, 112, 62, 181, 102, 72, 3, 246, 14, 97, 53, 87, 185, 134, 193, 29, 158, 225, 248, 152, 17, 105, 217, 142, 148, 155, 30, 135, 233, 206, 85, 40, 223, 140, 161, 137, 13, 191, 230, 66, 104, 65, 153, 45, 15, 176, 84, 187, 22]⟩ : ByteArray).size) : (⟨#[99, 124, 119, 123, 242, 107, 111, 197, 48, 1, 103, 43, 254, 215, 171, 118, 202, 130, 201, 125, 250, 89, 71, 240, 173, 212, 162, 175, 156, 164, 114, 192, 183, 253, 147, 38, 54, 63, 247, 204, 52, 165, 229, 241, 113, 216, 49, 21, 4, 199, 35, 195, 24, 150, 5, 154, 7, 18, 128, 226, 235, 39, 178, 117, 9, 131, 44, 26, 27, 110, 90, 160, 82, 59, 214, 179, 41, 227, 47, 132, 83, 209, 0, 237, 32, 252, 177, 91, 106, 203, 190, 57, 74, 76, 88, 207, 208, 239, 170, 251, 67, 77, 51, 133, 69, 249, 2, 127, 80, 60, 159, 168, 81, 163, 64, 143, 146, 157, 56, 245, 188, 182, 218, 33, 16, 255, 243, 210, 205, 12, 19, 236, 95, 151, 68, 23, 196, 167, 126, 61, 100, 93, 25, 115, 96, 129, 79, 220, 34, 42, 144, 136, 70, 238, 184, 20, 222, 94, 11, 219, 224, 50, 58, 10, 73, 6, 36, 92, 194, 211, 172, 98, 145, 149, 228, 121, 231, 200, 55, 109, 141, 213, 78, 169, 108, 86, 244, 234, 101, 122, 174, 8, 186, 120, 37, 46, 28, 166, 180, 198, 232, 221, 116, 31, 75, 189, 139, 138, 112, 62, 181, 102, 72, 3, 246, 14, 97, 53, 87, 185, 134, 193, 29, 158, 225, 248, 152, 17, 105, 217, 142, 148, 155, 30, 135, 233, 206, 85, 40, 223, 140, 161, 137, 13, 191, 230, 66, 104, 65, 153, 45, 15, 176, 84, 187, 22]⟩ : ByteArray)[y.toNat]'h' = subU y := by
 have hl : y.toNat < boxL.length := h'; have e : bU boxL y.toNat = boxL[y.toNat]'hl := by unfold bU; rw [List.getD_eq_getElem?_getD, List.getElem?_eq_getElem hl]; rfl
 unfold subU; rw [e]
 rfl
theorem replace_any (b : Nat) (T : TypeId) (l : List UInt8) (w : World) (hb : Blk w b T (bytesC l)) (hl : l.length = 16) : Calls Tryz.prog 162 #[.pointer (some ⟨b, 0, none⟩)] w fun e w' => e = .returned undef ∧ Blk w' b T (bytesC (replB l)) ∧ w.grownBy w' (some b) := by
 have HB := qq hb; have hlt := hb.lt; have HL := qq hl; have k0 : w.cell? ⟨b, 0, none⟩ = some (.int .u8 (byteAt l 0)) := by rw [hb.cell, bytesC_at (by omega)]
 have k1 : w.cell? ⟨b, 1, none⟩ = some (.int .u8 (byteAt l 1)) := by rw [hb.cell, bytesC_at (by omega)]
 have k2 : w.cell? ⟨b, 2, none⟩ = some (.int .u8 (byteAt l 2)) := by rw [hb.cell, bytesC_at (by omega)]
 have k3 : w.cell? ⟨b, 3, none⟩ = some (.int .u8 (byteAt l 3)) := by rw [hb.cell, bytesC_at (by omega)]
 have k4 : w.cell? ⟨b, 4, none⟩ = some (.int .u8 (byteAt l 4)) := by rw [hb.cell, bytesC_at (by omega)]
 have k5 : w.cell? ⟨b, 5, none⟩ = some (.int .u8 (byteAt l 5)) := by rw [hb.cell, bytesC_at (by omega)]
 have k6 : w.cell? ⟨b, 6, none⟩ = some (.int .u8 (byteAt l 6)) := by rw [hb.cell, bytesC_at (by omega)]
 have k7 : w.cell? ⟨b, 7, none⟩ = some (.int .u8 (byteAt l 7)) := by rw [hb.cell, bytesC_at (by omega)]
 have k8 : w.cell? ⟨b, 8, none⟩ = some (.int .u8 (byteAt l 8)) := by rw [hb.cell, bytesC_at (by omega)]
 have k9 : w.cell? ⟨b, 9, none⟩ = some (.int .u8 (byteAt l 9)) := by rw [hb.cell, bytesC_at (by omega)]
 have k10 : w.cell? ⟨b, 10, none⟩ = some (.int .u8 (byteAt l 10)) := by rw [hb.cell, bytesC_at (by omega)]
 have k11 : w.cell? ⟨b, 11, none⟩ = some (.int .u8 (byteAt l 11)) := by rw [hb.cell, bytesC_at (by omega)]
 have k12 : w.cell? ⟨b, 12, none⟩ = some (.int .u8 (byteAt l 12)) := by rw [hb.cell, bytesC_at (by omega)]
 have k13 : w.cell? ⟨b, 13, none⟩ = some (.int .u8 (byteAt l 13)) := by rw [hb.cell, bytesC_at (by omega)]
 have k14 : w.cell? ⟨b, 14, none⟩ = some (.int .u8 (byteAt l 14)) := by rw [hb.cell, bytesC_at (by omega)]
 have k15 : w.cell? ⟨b, 15, none⟩ = some (.int .u8 (byteAt l 15)) := by rw [hb.cell, bytesC_at (by omega)]
 clear hb
 go_enter Tryz.func162, Tryz.ntmps162
 go_upto_region 1 with fail
 rw [<- bytesC_16 hl]; obtain ⟨x1, o_, ex1, eo_⟩ : ∃ x1 o_, x1 = w.alloc (.cells (bytesC l) 225) ∧ o_ = w.heap.size := ⟨_, _, rfl, rfl⟩; rw [<- ex1, <- eo_]; have hbx : Below w.heap.size w x1 := by rw [ex1]; exact below_alloc1 _ _
 have BO := qq (show Blk x1 o_ 225 (bytesC l) by rw [ex1, eo_]; exact blk_new1_0 _ _ _); have BB := qs HB hbx; have hne : ¬ o_ = b := by omega
 have hne2 : ¬ b = o_ := by omega
 have R := qq hbx; clear hbx ex1 eo_ k0 k1 k2 k3 k4 k5 k6 k7 k8 k9 k10 k11 k12 k13 k14 k15 HB
 go_wp2_with fail
 go_loopw [7] (fun i wr => ∃ k : Nat, k <= 16 ∧ i = .int .i64 k ∧ Hid (Blk wr b T (bytesC (setsL (fun _ i => subU (bU l ((i + 4 * (i % 4)) % 16))) id l k))) ∧ x1.grownBy wr (some b)) (fun i _ => 16 - (intOf i).toNat)
 case atStart => exact ⟨0, by omega, rfl, BB.out, World.grownBy.refl _ _⟩
 case round =>
  clear BB; obtain ⟨k, hk, rfl, BB, hg⟩ := hrel; have HG := qq hg; clear hg
  by_cases hk16 : k < 16
  · obtain ⟨s, hs⟩ : ∃ s, setsL (fun _ i => subU (bU l ((i + 4 * (i % 4)) % 16))) id l k = s := ⟨_, rfl⟩; have HN : Hid (setsL (fun _ i => subU (bU l ((i + 4 * (i % 4)) % 16))) id l (k + 1) = s.set k (subU (bU l ((k + 4 * (k % 4)) % 16)))) := by unfold Hid; rw [setsL, hs]; rfl
    rw [hs] at BB; obtain ⟨r, hr⟩ : ∃ r, (k + 4 * (k % 4)) % 16 = r := ⟨_, rfl⟩; have hr16 : r < 16 := by omega
    have hr0 : (0 : Int) <= (r : Int) := by omega
    have hr1 : (r : Int) < 16 := by omega
    have c2 : wr.cell? ⟨o_, r, none⟩ = some (.int .u8 (byteAt l r)) := by have h := ((At.of_blk BO.out).grown HG.out (by simpa using hne)).2 r (by omega); rwa [Nat.zero_add] at h
    have f1 : wr.frozen? ⟨b, k, none⟩ = false := BB.out.frozen k; have hsl : s.length = 16 := by rw [<- hs, setsL_length, HL.out]
    have c1 : wr.cell? ⟨b, k, none⟩ = some (.int .u8 (byteAt s k)) := by rw [BB.out.cell, bytesC_at (by omega)]
    obtain ⟨y, hy⟩ : ∃ y, bU l r = y := ⟨_, rfl⟩; rw [byteAt_bU, hy] at c2; rw [hr, hy] at HN; have i0 : (0 : Int) <= (k : Int) := by omega
    have i1 : (k : Int) < 16 := by omega
    obtain ⟨a3, ha3⟩ : ∃ a3 : Nat, k % 4 = a3 := ⟨_, rfl⟩; have m0 : (k : Int).tmod 4 = (a3 : Int) := by rw [Int.tmod_eq_emod_of_nonneg (by omega)]; omega
    obtain ⟨a4, ha4⟩ : ∃ a4 : Nat, 4 * a3 = a4 := ⟨_, rfl⟩; obtain ⟨a5, ha5⟩ : ∃ a5 : Nat, k + a4 = a5 := ⟨_, rfl⟩; have m1 : IntKind.i64.wrap (4 * (a3 : Int)) = (a4 : Int) := by rw [show 4 * (a3 : Int) = (a4 : Int) by omega]; exact IntWalk.i64_in _ (by omega)
    have m2 : IntKind.i64.wrap ((k : Int) + (a4 : Int)) = (a5 : Int) := by rw [show (k : Int) + (a4 : Int) = (a5 : Int) by omega]; exact IntWalk.i64_in _ (by omega)
    have m3 : (a5 : Int).tmod 16 = (r : Int) := by rw [Int.tmod_eq_emod_of_nonneg (by omega)]; omega
    obtain ⟨z, hz⟩ : ∃ z, subU y = z := ⟨_, rfl⟩; have hbx := fun h' => (box_at y h').trans hz
    rw [hz] at HN; have hy8 : (y.toNat : Int) < 256 := by have := UInt8.toNat_lt y; omega
    clear hs hy hr hz ha3 ha4 ha5
    go_wp2_with fail
    refine region_tail 13 (by kernel_rfl) (by kernel_rfl) ?_; simp only [List.take_succ_cons, List.take_zero, List.drop_succ_cons, List.drop_zero]
    repeat ((with_reducible refine wpStill_step (fun K hK => ?_)); go_simp; (with_reducible refine hK _ ?_); clear hK K)
    refine wpStill_nil ?_; go_wp2
    go_roundw
    case rel =>
     refine ⟨k + 1, by omega, by go_num, ?_, ?_⟩
     · rw [HN.out, <- bytesC_set]; exact (Blk.put BB.out k (byteV z)).same rfl
     · exact grown_drew (grown_put HG.out k _)
    case measure => simp [intOf]; omega
  · obtain rfl : k = 16 := by omega
    go_wp2
    go_end0
    exact ⟨rfl, BB.out, (grown_of_below R.out (some b)).trans HG.out⟩
def RowB (w : World) (g : Nat) (T : TypeId) (n : Nat) (l : List UInt8) : Prop := l.length = n ∧ ∃ cur, Blk w g T cur ∧ cur.toList.take n = l.map byteV
section
variable {w w' : World} {g n : Nat} {T : TypeId} {l : List UInt8}
theorem RowB.lt (h : RowB w g T n l) : g < w.heap.size := by obtain ⟨_, cur, hB, _⟩ := h; exact hB.lt
theorem RowB.cell (h : RowB w g T n l) {i : Nat} (hi : i < n) : w.cell? ⟨g, i, none⟩ = some (.int .u8 (byteAt l i)) := by
 obtain ⟨hl, cur, hB, ht⟩ := h; have e : (cur.toList.take n)[i]? = (l.map byteV)[i]? := by rw [ht]
 rw [List.getElem?_take, if_pos hi, List.getElem?_map, List.getElem?_eq_getElem (l := l) (by omega)] at e; rw [hB.cell i, <- Array.getElem?_toList, e]; simp [byteAt, byteV, List.getD, List.getElem?_eq_getElem (by omega : i < l.length)]
theorem RowB.frozen (h : RowB w g T n l) (i : Nat) : w.frozen? ⟨g, i, none⟩ = false := by obtain ⟨_, cur, hB, _⟩ := h; exact hB.frozen i
theorem RowB.stays (h : RowB w g T n l) (hb : Below w.heap.size w w') : RowB w' g T n l := by obtain ⟨hl, cur, hB, ht⟩ := h; exact ⟨hl, cur, hB.stays hb, ht⟩
instance : QStay (RowB w g T n l) w w' (RowB w' g T n l) := ⟨fun h hb => RowB.stays h hb⟩
theorem RowB.grown (h : RowB w g T n l) {row : Option Nat} (hb : w.grownBy w' row) (hg : some g ≠ row) : RowB w' g T n l := by obtain ⟨hl, cur, hB, ht⟩ := h; exact ⟨hl, cur, hB.grown hb hg, ht⟩
theorem RowB.put (h : RowB w g T n l) (i : Nat) (z : UInt8) : RowB (w.setCell ⟨g, i, none⟩ (byteV z)) g T n (l.set i z) := by
 obtain ⟨hl, cur, hB, ht⟩ := h; refine ⟨by rw [List.length_set]; exact hl, _, hB.put i (byteV z), ?_⟩; rw [Array.toList_setIfInBounds, List.take_set, ht, List.map_set]
theorem RowB.bytes (h : RowB w g T n l) {c : Nat} (h1 : n <= c) (h2 : c <= maxLen) : Bytes w (some ⟨g, 0, none⟩) n c l := by
 obtain ⟨hl, cur, hB, ht⟩ := h; refine ⟨by rw [List.length_map]; omega, h1, h2, fun i u hu => ⟨g, 0, rfl, ?_⟩⟩; rw [Nat.zero_add, hB.cell i]; rw [<- ht, List.getElem?_take] at hu
 split at hu
 · simpa using hu
 · cases hu
end
theorem own_rowB {w : World} {B n c : Nat} {T : TypeId} {A : Option Addr} {l : List UInt8} (h : w.ownsRow B T 1 (.slice A n c) n (l.map byteV)) (hn : 0 < n) (hl : l.length = n) : ∃ g, A = some ⟨g, 0, none⟩ ∧ B <= g ∧ RowB w g T n l ∧ n <= c ∧ c <= maxLen := by
 obtain ⟨hl', h2⟩ := h; rcases h2 with ⟨hv, h0⟩ | ⟨g, cap, cur, hv, hB, hg, hn', hc, hs, ht⟩
 · exfalso; rw [h0] at hl'; simp at hl'; omega
 · injection hv with h1 h2 h3
   subst h1 h3; exact ⟨g, rfl, hB, ⟨hl, cur, hg, by simpa using ht⟩, hn', hc⟩
def incC (l : List UInt8) : Nat -> List UInt8
 | 0 => l
 | i + 1 => if bU l i + 1 = 0 then incC (l.set i 0) i else l.set i (bU l i + 1)
def nextC (l : List UInt8) : List UInt8 := incC l 16
theorem incC_length : ∀ (i : Nat) (l : List UInt8), (incC l i).length = l.length
 | 0, l => rfl
 | i + 1, l => by
  unfold incC
  split
  · rw [incC_length i, List.length_set]
  · rw [List.length_set]
theorem nextC_length (l : List UInt8) : (nextC l).length = l.length := incC_length _ _
theorem inc1_u8 (x : UInt8) : IntKind.u8.wrap ((x.toNat : Int) + 1) = ((x + 1).toNat : Int) := by
 have h := x.toNat_lt; rw [UInt8.toNat_add]; simp only [IntKind.wrap, IntKind.bits, IntKind.signed]; simp
theorem inc_zero (x : UInt8) : x + 1 = 0 ↔ (x + 1).toNat = 0 := by
 rw [<- UInt8.toNat_inj]; rfl
theorem next_any (A : Option Addr) (c : Nat) (l : List UInt8) (w : World) (hv : Bytes w A 16 c l) : Calls Tryz.prog 153 #[.slice A 16 c] w fun e w' => ∃ A' c', e = .returned (.slice A' 16 c') ∧ Bytes w' A' 16 c' (nextC l) ∧ Fresh w.heap.size A' ∧ Below w.heap.size w w' := by
 have HC := qq (clone_any A 16 c l w hv (by decide)); have HL := qq hv.len; clear hv
 go_enter Tryz.func153, Tryz.ntmps153
 go_wp2_with fail
 refine HC.out.mono ?_; rintro e w1 ⟨A1, c1, rfl, ho, hb⟩; obtain ⟨g, rfl, hg, hR, hc1, hc2⟩ := own_rowB ho (by decide) HL.out; have HR := qq hR; have RW := qq hb; have hcm : c1 <= 9223372036854775807 := by unfold maxLen at hc2; omega
 have HC2 := qq hc2; clear ho hR hb HC hc2
 go_upto_region 5 with fail
 go_loopw [4] (fun s wr => ∃ (j : Nat) (s' : List UInt8), s = .int .i64 ((j : Int) - 1) ∧ Hid (j <= 16) ∧ Hid (RowB wr g 5 16 s') ∧ Hid (incC s' j = nextC l) ∧ w1.grownBy wr (some g)) (fun s _ => match s with | .int _ j => (j + 1).toNat | _ => 0)
 case atStart => exact ⟨16, l, rfl, Nat.le_refl _, HR.out, rfl, World.grownBy.refl _ _⟩
 case round =>
  clear HR; obtain ⟨j, s, rfl, HJ, BB, HE, hgr⟩ := hrel; have GQ := qq hgr; clear hgr
  cases j with
  | zero =>
   have e0 : ((0 : Nat) : Int) - 1 = -1 := rfl; rw [e0]; go_wp2; go_ret; refine ⟨_, _, rfl, ?_, fun a ha => by cases ha; exact hg, RW.out.grown GQ.out RW.out.size (fun k hk => by cases hk; exact hg)⟩; have e : s = nextC l := HE.out; rw [<- e]; exact BB.out.bytes hc1 HC2.out
  | succ k =>
   have e0 : ((k + 1 : Nat) : Int) - 1 = (k : Int) := by omega
   rw [e0]; have hk16 : k < 16 := by have : k + 1 <= 16 := HJ.out; omega
   have c1' := BB.out.cell hk16; have f1 := BB.out.frozen k; obtain ⟨x, hx⟩ : ∃ x, bU s k = x := ⟨_, rfl⟩; rw [byteAt_bU, hx] at c1'; have hI := inc1_u8 x; have hz := inc_zero x; have HE2 : Hid ((if x + 1 = 0 then incC (s.set k 0) k else s.set k (x + 1)) = nextC l) := by
    have h := HE.out; unfold incC at h; rw [hx] at h; exact h
   obtain ⟨y, hy⟩ : ∃ y, x + 1 = y := ⟨_, rfl⟩; rw [hy] at hI hz HE2; have k0 : (0 : Int) <= (k : Int) := by omega
   have k1 : (k : Int) < 16 := by omega
   have hsl : s.length = 16 := BB.out.1; have DD := qq (BB.out.put k y); have GG := qq (grown_put GQ.out k (byteV y)); obtain ⟨W2, hW2⟩ : ∃ W2, wr.setCell ⟨g, k, none⟩ (byteV y) = W2 := ⟨_, rfl⟩; rw [hW2] at DD GG; have c2 := DD.out.cell hk16; have f2 := DD.out.frozen k; have hyy : byteAt (s.set k y) k = y.toNat := by rw [byteAt_bU]; unfold bU; simp [List.getD, hsl, hk16]
   rw [hyy] at c2; have hW3 : wr.setCell ⟨g, k, none⟩ (.int .u8 (y.toNat : Int)) = W2 := hW2; clear hx HE BB GQ hsl hyy hy hW2
   go_upto_region 8 with fail
   clear hI hW3 c1' f1
   by_cases hy0 : y = 0
   · have hy1 : (y.toNat : Int) = 0 := by have := hz.1 hy0; omega
     have HN : Hid (incC (s.set k y) k = nextC l) := by have h := HE2.out; rw [if_pos hy0] at h; rw [hy0]; exact h
     have hyn : y.toNat = 0 := by omega
     clear hz HE2; rw [hyn] at c2; go_wp2
     go_roundw
     case rel => exact ⟨k, s.set k y, rfl, qq (by omega), DD.out, HN, GG.out⟩
     case measure => simp
   · have hy1 : ¬ (y.toNat : Int) = 0 := fun h => hy0 (hz.2 (by omega))
     have HN : Hid (s.set k y = nextC l) := by have h := HE2.out; rw [if_neg hy0] at h; exact h
     have hyn : ¬ y.toNat = 0 := by omega
     clear hz HE2; go_wp2; go_ret; refine ⟨_, _, rfl, ?_, fun a ha => by cases ha; exact hg, RW.out.grown GG.out RW.out.size (fun k hk => by cases hk; exact hg)⟩; rw [<- HN.out]; exact DD.out.bytes hc1 HC2.out
end Go.Proofs.YtiemnacoebkalaaGreat
