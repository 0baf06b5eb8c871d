import Derived.Outline
import Derived.Deep.RegionWith
import Derived.Test.YtiemnacoebkalaaGreatTaV11
set_option linter.all false
set_option maxRecDepth 100000
set_option maxHeartbeats 4000000
namespace Go.Proofs.YtiemnacoebkalaaGreat
open Go.RowKit
theorem be64_one (l : List UInt8) : be64 l 1 = byteAt l 0 := by
 cases l with
 | nil => rfl
 | cons x l =>
  have := UInt8.toNat_lt x; simp [be64, be, byteAt]
theorem be64_drop1 (l : List UInt8) (i : Nat) : be64 (l.drop i) 1 = byteAt l i := by
 rw [be64_one]; simp [byteAt]
def hd32 (a v m s : Nat) (p q : Int) (l : List UInt8) : Nat -> Array Value
 | 0 => #[.int .i64 a, .int .i64 v, .int .i64 m, .int .i64 s, .int .i64 p, .int .i64 q, .int .u32 0, .int .u32 0, .int .u32 0, .int .u64 0, .int .u64 0, .int .u64 0, .int .u64 0]
 | 1 => #[.int .i64 a, .int .i64 v, .int .i64 m, .int .i64 s, .int .i64 p, .int .i64 q, .int .u32 (dcU l 4 4), .int .u32 0, .int .u32 0, .int .u64 0, .int .u64 0, .int .u64 0, .int .u64 0]
 | 2 => #[.int .i64 a, .int .i64 v, .int .i64 m, .int .i64 s, .int .i64 p, .int .i64 q, .int .u32 (dcU l 4 4), .int .u32 (dcU l 8 4), .int .u32 0, .int .u64 0, .int .u64 0, .int .u64 0, .int .u64 0]
 | _ => #[.int .i64 a, .int .i64 v, .int .i64 m, .int .i64 s, .int .i64 p, .int .i64 q, .int .u32 (dcU l 4 4), .int .u32 (dcU l 8 4), .int .u32 (dcU l 12 4), .int .u64 0, .int .u64 0, .int .u64 0, .int .u64 0]
def hd64 (a v m s : Nat) (p q : Int) (l : List UInt8) : Nat -> Array Value
 | 0 => #[.int .i64 a, .int .i64 v, .int .i64 m, .int .i64 s, .int .i64 p, .int .i64 q, .int .u32 (dcU l 4 4), .int .u32 (dcU l 8 4), .int .u32 (dcU l 12 4), .int .u64 0, .int .u64 0, .int .u64 0, .int .u64 0]
 | 1 => #[.int .i64 a, .int .i64 v, .int .i64 m, .int .i64 s, .int .i64 p, .int .i64 q, .int .u32 (dcU l 4 4), .int .u32 (dcU l 8 4), .int .u32 (dcU l 12 4), .int .u64 (dcU l 16 8), .int .u64 0, .int .u64 0, .int .u64 0]
 | 2 => #[.int .i64 a, .int .i64 v, .int .i64 m, .int .i64 s, .int .i64 p, .int .i64 q, .int .u32 (dcU l 4 4), .int .u32 (dcU l 8 4), .int .u32 (dcU l 12 4), .int .u64 (dcU l 16 8), .int .u64 (dcU l 24 8), .int .u64 0, .int .u64 0]
 | 3 => #[.int .i64 a, .int .i64 v, .int .i64 m, .int .i64 s, .int .i64 p, .int .i64 q, .int .u32 (dcU l 4 4), .int .u32 (dcU l 8 4), .int .u32 (dcU l 12 4), .int .u64 (dcU l 16 8), .int .u64 (dcU l 24 8), .int .u64 (dcU l 32 8), .int .u64 0]
 | _ => #[.int .i64 a, .int .i64 v, .int .i64 m, .int .i64 s, .int .i64 p, .int .i64 q, .int .u32 (dcU l 4 4), .int .u32 (dcU l 8 4), .int .u32 (dcU l 12 4), .int .u64 (dcU l 16 8), .int .u64 (dcU l 24 8), .int .u64 (dcU l 32 8), .int .u64 (dcU l 40 8)]
theorem dcU32_lt (l : List UInt8) (i : Nat) (h : i + 4 <= l.length) : dcU l i 4 < 4294967296 := by
 rcases pb_be64_lt (l.drop i) 4 with h1 | h1
 · exact h1
 · rw [List.length_drop] at h1; omega
theorem dec_ok (A : Option Addr) (n c : Nat) (l : List UInt8) (w : World) (hv : Bytes w A n c l) (h1 : 48 <= n) (h2 : n <= 1280) (hver : dcV l = 3 ∨ dcV l = 4) :
    Calls Tryz.prog 95 #[.slice A n c] w fun e w' => ∃ A' c', e = .returned (.tuple #[.agg #[.int .i64 (dcL l), .int .i64 (dcV l), .int .i64 (dcM l), .int .i64 (byteAt l 1), .int .i64 (sgnB (byteAt l 2)), .int .i64 (sgnB (byteAt l 3)), .int .u32 (dcU l 4 4), .int .u32 (dcU l 8 4), .int .u32 (dcU l 12 4), .int .u64 (dcU l 16 8), .int .u64 (dcU l 24 8), .int .u64 (dcU l 32 8), .int .u64 (dcU l 40 8)], .slice A' (n - 48) c', .int .i64 0]) ∧ Bytes w' A' (n - 48) c' (l.drop 48) ∧ Below w.heap.size w w' := by
 have q1 := hv.le; have q2 := hv.cap; have h1i : ¬ (n : Int) < 48 := by omega
 have h2i : ¬ (n : Int) > 1280 := by omega
 have HV := qq hv; have HL := qq hv.len; clear hv; have y0 := byteAt_lt l 0; have y1 := byteAt_lt l 1; have y2 := byteAt_lt l 2; have y3 := byteAt_lt l 3; obtain ⟨a, ha⟩ : ∃ a, dcL l = a := ⟨_, rfl⟩; obtain ⟨v, hv⟩ : ∃ v, dcV l = v := ⟨_, rfl⟩; obtain ⟨m, hm⟩ : ∃ m, dcM l = m := ⟨_, rfl⟩; obtain ⟨s, hs⟩ : ∃ s, byteAt l 1 = s := ⟨_, rfl⟩; obtain ⟨p, hp⟩ : ∃ p, sgnB (byteAt l 2) = p := ⟨_, rfl⟩; obtain ⟨q, hq⟩ : ∃ q, sgnB (byteAt l 3) = q := ⟨_, rfl⟩; have wp := sgnB_wrap _ y2; have wq := sgnB_wrap _ y3; have bp := sgnB_in _ y2; have bq := sgnB_in _ y3; have E1 := qq hs; have ha2 : byteAt l 0 / 64 = a := ha; have hv2 : byteAt l 0 / 8 % 8 = v := hv; have hm2 : byteAt l 0 % 8 = m := hm; rw [ha, hv, hm, hs, hp, hq]; rw [hv] at hver; rw [hs] at y1; rw [hp] at wp bp; rw [hq] at wq bq; clear ha hv hm; obtain ⟨x0, hx0⟩ : ∃ x, byteAt l 0 = x := ⟨_, rfl⟩; obtain ⟨x2, hx2⟩ : ∃ x, byteAt l 2 = x := ⟨_, rfl⟩; obtain ⟨x3, hx3⟩ : ∃ x, byteAt l 3 = x := ⟨_, rfl⟩; have E0 := qq hx0; have E2 := qq hx2; have E3 := qq hx3; rw [hx0] at y0 ha2 hv2 hm2; rw [hx2] at wp y2; rw [hx3] at wq y3; have n7 := and7 (x0 / 8) (by omega); have m7 := and7 x0 (by omega); rw [hv2] at n7; rw [hm2] at m7; have n7' : bits .and .i64 ((x0 : Int) / 8) 7 = (v : Int) := n7; have ha' : (x0 : Int) / 64 = (a : Int) := by omega
 have wx0 : IntKind.i64.wrap (x0 : Int) = (x0 : Int) := IntWalk.i64_in _ (by omega); have ws : IntKind.i64.wrap (s : Int) = (s : Int) := IntWalk.i64_in _ (by omega); have wp2 : IntKind.i64.wrap p = p := IntWalk.i64_in _ (by omega); have wq2 : IntKind.i64.wrap q = q := IntWalk.i64_in _ (by omega); clear hx0 hx2 hx3 hs hp hq ha2 hv2 hm2 n7
 go_enter Tryz.func95, Tryz.ntmps95
 go_upto_region 6 with fail
 obtain ⟨wa, hb, rb, hwa, hh, hr⟩ : ∃ wa hb rb, wa = (w.alloc (.cells #[.int .i64 0, .int .i64 0, .int .i64 0, .int .i64 0, .int .i64 0, .int .i64 0, .int .u32 0, .int .u32 0, .int .u32 0, .int .u64 0, .int .u64 0, .int .u64 0, .int .u64 0] 48)).alloc (.cells #[.slice A n c] 200) ∧ hb = w.heap.size ∧ rb = w.heap.size + 1 := ⟨_, _, _, rfl, rfl, rfl⟩; rw [<- hwa, <- hr, <- hh]; have D : DS w hb rb l 0 #[.int .i64 0, .int .i64 0, .int .i64 0, .int .i64 0, .int .i64 0, .int .i64 0, .int .u32 0, .int .u32 0, .int .u32 0, .int .u64 0, .int .u64 0, .int .u64 0, .int .u64 0] wa := by
  subst hwa hh hr; exact ⟨blk_new2_0 _ _ _ _ _, ⟨A, n, c, blk_new2_1 _ _ _ _ _, by simpa using HV.out, by simpa using HL.out.symm⟩, below_alloc2 _ _ _, by omega, by omega, by omega⟩
 clear hwa hh hr
 go_wp2_with fail
 refine (D.next 1 (by rw [HL.out]; omega)).mono ?_; rintro e w1 ⟨rfl, D1⟩; rw [be64_drop1, E0.out]; have k0 : w1.cell? ⟨hb, 0, none⟩ = some (.int .i64 0) := D1.hd.cell 0; have k1 : w1.cell? ⟨hb, 1, none⟩ = some (.int .i64 0) := D1.hd.cell 1; have k2 : w1.cell? ⟨hb, 2, none⟩ = some (.int .i64 0) := D1.hd.cell 2; have f0 := D1.hd.frozen 0; have f1 := D1.hd.frozen 1; have f2 := D1.hd.frozen 2
 go_upto_region 9 with fail
 obtain ⟨w2, hw2⟩ : ∃ w2, w2 = ((w1.setCell ⟨hb, 0, none⟩ (.int .i64 a)).setCell ⟨hb, 1, none⟩ (.int .i64 v)).setCell ⟨hb, 2, none⟩ (.int .i64 m) := ⟨_, rfl⟩; rw [<- hw2]; have D2 : DS w hb rb l 1 #[.int .i64 a, .int .i64 v, .int .i64 m, .int .i64 0, .int .i64 0, .int .i64 0, .int .u32 0, .int .u32 0, .int .u32 0, .int .u64 0, .int .u64 0, .int .u64 0, .int .u64 0] w2 := by
  rw [hw2]; exact ((D1.set 0 (.int .i64 a)).set 1 (.int .i64 v)).set 2 (.int .i64 m)
 clear hw2 D D1 k0 k1 k2 f0 f1 f2; have k1 : w2.cell? ⟨hb, 1, none⟩ = some (.int .i64 v) := D2.hd.cell 1; have hv43 : ((v : Int) != 4) = false ∨ (((v : Int) != 4) = true ∧ ((v : Int) != 3) = false) := by
  rcases hver with rfl | rfl
  · exact .inr ⟨by decide, by decide⟩
  · exact .inl (by decide)
 rcases hv43 with hv4 | ⟨hv4, hv3⟩
 all_goals
  clear hver
  go_wp2_with fail
  refine (D2.next 1 (by rw [HL.out]; omega)).mono ?_; rintro e w3 ⟨rfl, D3⟩; rw [be64_drop1, E1.out]
  go_wp2_with fail
  refine (D3.next 1 (by rw [HL.out]; omega)).mono ?_; rintro e w4 ⟨rfl, D4⟩; rw [be64_drop1, E2.out]
  go_wp2_with fail
  refine (D4.next 1 (by rw [HL.out]; omega)).mono ?_; rintro e w5 ⟨rfl, D5⟩; rw [be64_drop1, E3.out]; have k3 : w5.cell? ⟨hb, 3, none⟩ = some (.int .i64 0) := D5.hd.cell 3; have k4 : w5.cell? ⟨hb, 4, none⟩ = some (.int .i64 0) := D5.hd.cell 4; have k5 : w5.cell? ⟨hb, 5, none⟩ = some (.int .i64 0) := D5.hd.cell 5; have f3 := D5.hd.frozen 3; have f4 := D5.hd.frozen 4; have f5 := D5.hd.frozen 5
  go_upto_region 12 with fail
  obtain ⟨w6, hw6⟩ : ∃ w6, w6 = ((w5.setCell ⟨hb, 3, none⟩ (.int .i64 s)).setCell ⟨hb, 4, none⟩ (.int .i64 p)).setCell ⟨hb, 5, none⟩ (.int .i64 q) := ⟨_, rfl⟩; rw [<- hw6]; have D6 : DS w hb rb l (4 + 4 * 0) (hd32 a v m s p q l 0) w6 := by
   rw [hw6]; exact ((D5.set 3 (.int .i64 s)).set 4 (.int .i64 p)).set 5 (.int .i64 q)
  clear hw6 D2 D3 D4 D5 k3 k4 k5 f3 f4 f5 k1; have i0 : ∀ W : World, (Instr.index 204 (.agg #[.pointer (some ⟨hb, 6, none⟩), .pointer (some ⟨hb, 7, none⟩), .pointer (some ⟨hb, 8, none⟩)]) (.int .i64 0)).run Tryz.prog W = .ok (.pointer (some ⟨hb, 6, none⟩)) W := fun _ => by kernel_rfl
  have i1 : ∀ W : World, (Instr.index 204 (.agg #[.pointer (some ⟨hb, 6, none⟩), .pointer (some ⟨hb, 7, none⟩), .pointer (some ⟨hb, 8, none⟩)]) (.int .i64 1)).run Tryz.prog W = .ok (.pointer (some ⟨hb, 7, none⟩)) W := fun _ => by kernel_rfl
  have i2 : ∀ W : World, (Instr.index 204 (.agg #[.pointer (some ⟨hb, 6, none⟩), .pointer (some ⟨hb, 7, none⟩), .pointer (some ⟨hb, 8, none⟩)]) (.int .i64 2)).run Tryz.prog W = .ok (.pointer (some ⟨hb, 8, none⟩)) W := fun _ => by kernel_rfl
  have j0 : ∀ W : World, (Instr.index 206 (.agg #[.pointer (some ⟨hb, 9, none⟩), .pointer (some ⟨hb, 10, none⟩), .pointer (some ⟨hb, 11, none⟩), .pointer (some ⟨hb, 12, none⟩)]) (.int .i64 0)).run Tryz.prog W = .ok (.pointer (some ⟨hb, 9, none⟩)) W := fun _ => by kernel_rfl
  have j1 : ∀ W : World, (Instr.index 206 (.agg #[.pointer (some ⟨hb, 9, none⟩), .pointer (some ⟨hb, 10, none⟩), .pointer (some ⟨hb, 11, none⟩), .pointer (some ⟨hb, 12, none⟩)]) (.int .i64 1)).run Tryz.prog W = .ok (.pointer (some ⟨hb, 10, none⟩)) W := fun _ => by kernel_rfl
  have j2 : ∀ W : World, (Instr.index 206 (.agg #[.pointer (some ⟨hb, 9, none⟩), .pointer (some ⟨hb, 10, none⟩), .pointer (some ⟨hb, 11, none⟩), .pointer (some ⟨hb, 12, none⟩)]) (.int .i64 2)).run Tryz.prog W = .ok (.pointer (some ⟨hb, 11, none⟩)) W := fun _ => by kernel_rfl
  have j3 : ∀ W : World, (Instr.index 206 (.agg #[.pointer (some ⟨hb, 9, none⟩), .pointer (some ⟨hb, 10, none⟩), .pointer (some ⟨hb, 11, none⟩), .pointer (some ⟨hb, 12, none⟩)]) (.int .i64 3)).run Tryz.prog W = .ok (.pointer (some ⟨hb, 12, none⟩)) W := fun _ => by kernel_rfl
  go_wp2_with fail
  go_loopw [64] (fun i wr => ∃ k : Nat, k <= 3 ∧ i = .int .i64 k ∧ DS w hb rb l (4 + 4 * k) (hd32 a v m s p q l k) wr) (fun i _ => 3 - (intOf i).toNat)
  case atStart => exact ⟨0, by omega, rfl, D6⟩
  case round =>
   clear D6; obtain ⟨k, hk, rfl, Dk⟩ := hrel; rcases (by omega : k = 0 ∨ k = 1 ∨ k = 2 ∨ k = 3) with rfl | rfl | rfl | rfl
   · have Dk : DS w hb rb l 4 #[.int .i64 a, .int .i64 v, .int .i64 m, .int .i64 s, .int .i64 p, .int .i64 q, .int .u32 0, .int .u32 0, .int .u32 0, .int .u64 0, .int .u64 0, .int .u64 0, .int .u64 0] wr := Dk; have hlt := dcU32_lt l 4 (by rw [HL.out]; omega)
     go_wp2_with fail
     refine (Dk.next 4 (by rw [HL.out]; omega)).mono ?_; rintro e w7 ⟨rfl, D7⟩; rw [show be64 (l.drop 4) 4 = dcU l 4 4 from rfl]; have k6 : w7.cell? ⟨hb, 6, none⟩ = some (.int .u32 0) := D7.hd.cell 6; have f6 := D7.hd.frozen 6; have wu : IntKind.u32.wrap (dcU l 4 4 : Int) = (dcU l 4 4 : Int) := IntWalk.u32_in _ (by omega)
     go_wp2_with fail
     go_roundw
     case rel => exact ⟨1, by omega, rfl, D7.set 6 (.int .u32 (dcU l 4 4))⟩
     case measure => simp [intOf]
   · have Dk : DS w hb rb l 8 #[.int .i64 a, .int .i64 v, .int .i64 m, .int .i64 s, .int .i64 p, .int .i64 q, .int .u32 (dcU l 4 4), .int .u32 0, .int .u32 0, .int .u64 0, .int .u64 0, .int .u64 0, .int .u64 0] wr := Dk; have hlt := dcU32_lt l 8 (by rw [HL.out]; omega)
     go_wp2_with fail
     refine (Dk.next 4 (by rw [HL.out]; omega)).mono ?_; rintro e w7 ⟨rfl, D7⟩; rw [show be64 (l.drop 8) 4 = dcU l 8 4 from rfl]; have k6 : w7.cell? ⟨hb, 7, none⟩ = some (.int .u32 0) := D7.hd.cell 7; have f6 := D7.hd.frozen 7; have wu : IntKind.u32.wrap (dcU l 8 4 : Int) = (dcU l 8 4 : Int) := IntWalk.u32_in _ (by omega)
     go_wp2_with fail
     go_roundw
     case rel => exact ⟨2, by omega, rfl, D7.set 7 (.int .u32 (dcU l 8 4))⟩
     case measure => simp [intOf]
   · have Dk : DS w hb rb l 12 #[.int .i64 a, .int .i64 v, .int .i64 m, .int .i64 s, .int .i64 p, .int .i64 q, .int .u32 (dcU l 4 4), .int .u32 (dcU l 8 4), .int .u32 0, .int .u64 0, .int .u64 0, .int .u64 0, .int .u64 0] wr := Dk; have hlt := dcU32_lt l 12 (by rw [HL.out]; omega)
     go_wp2_with fail
     refine (Dk.next 4 (by rw [HL.out]; omega)).mono ?_; rintro e w7 ⟨rfl, D7⟩; rw [show be64 (l.drop 12) 4 = dcU l 12 4 from rfl]; have k6 : w7.cell? ⟨hb, 8, none⟩ = some (.int .u32 0) := D7.hd.cell 8; have f6 := D7.hd.frozen 8; have wu : IntKind.u32.wrap (dcU l 12 4 : Int) = (dcU l 12 4 : Int) := IntWalk.u32_in _ (by omega)
     go_wp2_with fail
     go_roundw
     case rel => exact ⟨3, by omega, rfl, D7.set 8 (.int .u32 (dcU l 12 4))⟩
     case measure => simp [intOf]
   · have Dk : DS w hb rb l (16 + 8 * 0) (hd64 a v m s p q l 0) wr := Dk
     go_wp2_with fail
     obtain ⟨wo, rfl⟩ : ∃ wo : World, wo = wr := ⟨_, rfl⟩
     go_loopw [78] (fun i wr => ∃ k : Nat, k <= 4 ∧ i = .int .i64 k ∧ DS w hb rb l (16 + 8 * k) (hd64 a v m s p q l k) wr) (fun i _ => 4 - (intOf i).toNat)
     case atStart => exact ⟨0, by omega, rfl, Dk⟩
     case round =>
      clear Dk; obtain ⟨k, hk, rfl, Dk⟩ := hrel; rcases (by omega : k = 0 ∨ k = 1 ∨ k = 2 ∨ k = 3 ∨ k = 4) with rfl | rfl | rfl | rfl | rfl
      · have Dk : DS w hb rb l 16 #[.int .i64 a, .int .i64 v, .int .i64 m, .int .i64 s, .int .i64 p, .int .i64 q, .int .u32 (dcU l 4 4), .int .u32 (dcU l 8 4), .int .u32 (dcU l 12 4), .int .u64 0, .int .u64 0, .int .u64 0, .int .u64 0] _ := Dk
        go_wp2_with fail
        refine (Dk.next 8 (by rw [HL.out]; omega)).mono ?_; rintro e w7 ⟨rfl, D7⟩; rw [show be64 (l.drop 16) 8 = dcU l 16 8 from rfl]; have k6 : w7.cell? ⟨hb, 9, none⟩ = some (.int .u64 0) := D7.hd.cell 9; have f6 := D7.hd.frozen 9
        go_wp2_with fail
        go_roundw
        case rel => first | exact ⟨1, by omega, rfl, D7.set 9 (.int .u64 (dcU l 16 8))⟩ | ((repeat apply Exists.intro); exact ⟨⟨1, by omega, rfl, D7.set 9 (.int .u64 (dcU l 16 8))⟩, rfl⟩)
        case measure => simp [intOf]
      · have Dk : DS w hb rb l 24 #[.int .i64 a, .int .i64 v, .int .i64 m, .int .i64 s, .int .i64 p, .int .i64 q, .int .u32 (dcU l 4 4), .int .u32 (dcU l 8 4), .int .u32 (dcU l 12 4), .int .u64 (dcU l 16 8), .int .u64 0, .int .u64 0, .int .u64 0] _ := Dk
        go_wp2_with fail
        refine (Dk.next 8 (by rw [HL.out]; omega)).mono ?_; rintro e w7 ⟨rfl, D7⟩; rw [show be64 (l.drop 24) 8 = dcU l 24 8 from rfl]; have k6 : w7.cell? ⟨hb, 10, none⟩ = some (.int .u64 0) := D7.hd.cell 10; have f6 := D7.hd.frozen 10
        go_wp2_with fail
        go_roundw
        case rel => first | exact ⟨2, by omega, rfl, D7.set 10 (.int .u64 (dcU l 24 8))⟩ | ((repeat apply Exists.intro); exact ⟨⟨2, by omega, rfl, D7.set 10 (.int .u64 (dcU l 24 8))⟩, rfl⟩)
        case measure => simp [intOf]
      · have Dk : DS w hb rb l 32 #[.int .i64 a, .int .i64 v, .int .i64 m, .int .i64 s, .int .i64 p, .int .i64 q, .int .u32 (dcU l 4 4), .int .u32 (dcU l 8 4), .int .u32 (dcU l 12 4), .int .u64 (dcU l 16 8), .int .u64 (dcU l 24 8), .int .u64 0, .int .u64 0] _ := Dk
        go_wp2_with fail
        refine (Dk.next 8 (by rw [HL.out]; omega)).mono ?_; rintro e w7 ⟨rfl, D7⟩; rw [show be64 (l.drop 32) 8 = dcU l 32 8 from rfl]; have k6 : w7.cell? ⟨hb, 11, none⟩ = some (.int .u64 0) := D7.hd.cell 11; have f6 := D7.hd.frozen 11
        go_wp2_with fail
        go_roundw
        case rel => first | exact ⟨3, by omega, rfl, D7.set 11 (.int .u64 (dcU l 32 8))⟩ | ((repeat apply Exists.intro); exact ⟨⟨3, by omega, rfl, D7.set 11 (.int .u64 (dcU l 32 8))⟩, rfl⟩)
        case measure => simp [intOf]
      · have Dk : DS w hb rb l 40 #[.int .i64 a, .int .i64 v, .int .i64 m, .int .i64 s, .int .i64 p, .int .i64 q, .int .u32 (dcU l 4 4), .int .u32 (dcU l 8 4), .int .u32 (dcU l 12 4), .int .u64 (dcU l 16 8), .int .u64 (dcU l 24 8), .int .u64 (dcU l 32 8), .int .u64 0] _ := Dk
        go_wp2_with fail
        refine (Dk.next 8 (by rw [HL.out]; omega)).mono ?_; rintro e w7 ⟨rfl, D7⟩; rw [show be64 (l.drop 40) 8 = dcU l 40 8 from rfl]; have k6 : w7.cell? ⟨hb, 12, none⟩ = some (.int .u64 0) := D7.hd.cell 12; have f6 := D7.hd.frozen 12
        go_wp2_with fail
        go_roundw
        case rel => first | exact ⟨4, by omega, rfl, D7.set 12 (.int .u64 (dcU l 40 8))⟩ | ((repeat apply Exists.intro); exact ⟨⟨4, by omega, rfl, D7.set 12 (.int .u64 (dcU l 40 8))⟩, rfl⟩)
        case measure => simp [intOf]
      · have Dk : DS w hb rb l 48 #[.int .i64 a, .int .i64 v, .int .i64 m, .int .i64 s, .int .i64 p, .int .i64 q, .int .u32 (dcU l 4 4), .int .u32 (dcU l 8 4), .int .u32 (dcU l 12 4), .int .u64 (dcU l 16 8), .int .u64 (dcU l 24 8), .int .u64 (dcU l 32 8), .int .u64 (dcU l 40 8)] _ := Dk; obtain ⟨A2, n2, c2, hrb, hby, hn2⟩ := Dk.rd; obtain rfl : n2 = n - 48 := by have := HL.out; omega
        have R := Dk.below; have hne := Dk.ne; have ge1 := Dk.ge1; have kr : wr.cell? ⟨rb, 0, none⟩ = some (.slice A2 (n - 48) c2) := hrb.cell 0; have k0 : wr.cell? ⟨hb, 0, none⟩ = some (.int .i64 a) := Dk.hd.cell 0; have f0 := Dk.hd.frozen 0; have k1 : wr.cell? ⟨hb, 1, none⟩ = some (.int .i64 v) := Dk.hd.cell 1; have f1 := Dk.hd.frozen 1; have k2 : wr.cell? ⟨hb, 2, none⟩ = some (.int .i64 m) := Dk.hd.cell 2; have f2 := Dk.hd.frozen 2; have k3 : wr.cell? ⟨hb, 3, none⟩ = some (.int .i64 s) := Dk.hd.cell 3; have f3 := Dk.hd.frozen 3; have k4 : wr.cell? ⟨hb, 4, none⟩ = some (.int .i64 p) := Dk.hd.cell 4; have f4 := Dk.hd.frozen 4; have k5 : wr.cell? ⟨hb, 5, none⟩ = some (.int .i64 q) := Dk.hd.cell 5; have f5 := Dk.hd.frozen 5; have k6 : wr.cell? ⟨hb, 6, none⟩ = some (.int .u32 (dcU l 4 4)) := Dk.hd.cell 6; have f6 := Dk.hd.frozen 6; have k7 : wr.cell? ⟨hb, 7, none⟩ = some (.int .u32 (dcU l 8 4)) := Dk.hd.cell 7; have f7 := Dk.hd.frozen 7; have k8 : wr.cell? ⟨hb, 8, none⟩ = some (.int .u32 (dcU l 12 4)) := Dk.hd.cell 8; have f8 := Dk.hd.frozen 8; have k9 : wr.cell? ⟨hb, 9, none⟩ = some (.int .u64 (dcU l 16 8)) := Dk.hd.cell 9; have f9 := Dk.hd.frozen 9; have k10 : wr.cell? ⟨hb, 10, none⟩ = some (.int .u64 (dcU l 24 8)) := Dk.hd.cell 10; have f10 := Dk.hd.frozen 10; have k11 : wr.cell? ⟨hb, 11, none⟩ = some (.int .u64 (dcU l 32 8)) := Dk.hd.cell 11; have f11 := Dk.hd.frozen 11; have k12 : wr.cell? ⟨hb, 12, none⟩ = some (.int .u64 (dcU l 40 8)) := Dk.hd.cell 12; have f12 := Dk.hd.frozen 12; have s0 := Dk.hd.again 0 (.int .i64 a) rfl; have s1 := Dk.hd.again 1 (.int .i64 v) rfl; have s2 := Dk.hd.again 2 (.int .i64 m) rfl; have s3 := Dk.hd.again 3 (.int .i64 s) rfl; have s4 := Dk.hd.again 4 (.int .i64 p) rfl; have s5 := Dk.hd.again 5 (.int .i64 q) rfl; have s6 := Dk.hd.again 6 (.int .u32 (dcU l 4 4)) rfl; have s7 := Dk.hd.again 7 (.int .u32 (dcU l 8 4)) rfl; have s8 := Dk.hd.again 8 (.int .u32 (dcU l 12 4)) rfl; have s9 := Dk.hd.again 9 (.int .u64 (dcU l 16 8)) rfl; have s10 := Dk.hd.again 10 (.int .u64 (dcU l 24 8)) rfl; have s11 := Dk.hd.again 11 (.int .u64 (dcU l 32 8)) rfl; have s12 := Dk.hd.again 12 (.int .u64 (dcU l 40 8)) rfl; have HBY := qq (hby.stays R); have HD := qq Dk.hd; have lt1 := Dk.hd.lt; clear hrb hby hn2 Dk
        go_wp2_with fail
        go_region_with (go_at_call 86; (with_reducible refine (clone_any _ _ _ _ _ (HBY.out.stays (by go_grown)) (by omega)).mono ?_); rintro e w8 ⟨A8, c8, rfl, hv8, hb8⟩; have hbx : Below wr.heap.size wr w8 := below_via (by go_grown) hb8 (by simp); have hd8 := HD.out.stays hbx; have z0 : w8.cell? ⟨hb, 0, none⟩ = some (.int .i64 a) := hd8.cell 0; have s8_0 := hd8.again 0 (.int .i64 a) rfl; have g0 := hd8.frozen 0; have z1 : w8.cell? ⟨hb, 1, none⟩ = some (.int .i64 v) := hd8.cell 1; have s8_1 := hd8.again 1 (.int .i64 v) rfl; have g1 := hd8.frozen 1; have z2 : w8.cell? ⟨hb, 2, none⟩ = some (.int .i64 m) := hd8.cell 2; have s8_2 := hd8.again 2 (.int .i64 m) rfl; have g2 := hd8.frozen 2; have z3 : w8.cell? ⟨hb, 3, none⟩ = some (.int .i64 s) := hd8.cell 3; have s8_3 := hd8.again 3 (.int .i64 s) rfl; have g3 := hd8.frozen 3; have z4 : w8.cell? ⟨hb, 4, none⟩ = some (.int .i64 p) := hd8.cell 4; have s8_4 := hd8.again 4 (.int .i64 p) rfl; have g4 := hd8.frozen 4; have z5 : w8.cell? ⟨hb, 5, none⟩ = some (.int .i64 q) := hd8.cell 5; have s8_5 := hd8.again 5 (.int .i64 q) rfl; have g5 := hd8.frozen 5; have z6 : w8.cell? ⟨hb, 6, none⟩ = some (.int .u32 (dcU l 4 4)) := hd8.cell 6; have s8_6 := hd8.again 6 (.int .u32 (dcU l 4 4)) rfl; have g6 := hd8.frozen 6; have z7 : w8.cell? ⟨hb, 7, none⟩ = some (.int .u32 (dcU l 8 4)) := hd8.cell 7; have s8_7 := hd8.again 7 (.int .u32 (dcU l 8 4)) rfl; have g7 := hd8.frozen 7; have z8 : w8.cell? ⟨hb, 8, none⟩ = some (.int .u32 (dcU l 12 4)) := hd8.cell 8; have s8_8 := hd8.again 8 (.int .u32 (dcU l 12 4)) rfl; have g8 := hd8.frozen 8; have z9 : w8.cell? ⟨hb, 9, none⟩ = some (.int .u64 (dcU l 16 8)) := hd8.cell 9; have s8_9 := hd8.again 9 (.int .u64 (dcU l 16 8)) rfl; have g9 := hd8.frozen 9; have z10 : w8.cell? ⟨hb, 10, none⟩ = some (.int .u64 (dcU l 24 8)) := hd8.cell 10; have s8_10 := hd8.again 10 (.int .u64 (dcU l 24 8)) rfl; have g10 := hd8.frozen 10; have z11 : w8.cell? ⟨hb, 11, none⟩ = some (.int .u64 (dcU l 32 8)) := hd8.cell 11; have s8_11 := hd8.again 11 (.int .u64 (dcU l 32 8)) rfl; have g11 := hd8.frozen 11; have z12 : w8.cell? ⟨hb, 12, none⟩ = some (.int .u64 (dcU l 40 8)) := hd8.cell 12; have s8_12 := hd8.again 12 (.int .u64 (dcU l 40 8)) rfl; have g12 := hd8.frozen 12)
        all_goals
         have R8 : Below w.heap.size w w8 := R.trans (hbx.mono R.size); have H8 := qq hv8; clear hv8 hb8 hbx
         go_wp2_with fail
         exact bodyPost_ret (results_hd3 (r := 2) (t := 3) (u := 4) rfl _ rfl hd8) rfl ⟨A8, c8, rfl, own_rd H8.out, R8⟩
theorem dec_join (l v m s : Nat) (p q : Int) (h6 h7 h8 h9 h10 h11 h12 : Nat) (rest : List UInt8) (h : HdOk l v m s p q) (z6 : h6 < 4294967296) (z7 : h7 < 4294967296) (z8 : h8 < 4294967296) (z9 : h9 < 18446744073709551616) (z10 : h10 < 18446744073709551616) (z11 : h11 < 18446744073709551616) (z12 : h12 < 18446744073709551616) (A : Option Addr) (n c : Nat) (w : World) (hv : Bytes w A n c (hdBytes l v m s p q h6 h7 h8 h9 h10 h11 h12 ++ rest)) (hn : n <= 1280) (k : Nat) (hk : rest.length = k) :
    Calls Tryz.prog 95 #[.slice A n c] w fun e w' => ∃ A' c', e = .returned (.tuple #[.agg #[.int .i64 l, .int .i64 v, .int .i64 m, .int .i64 s, .int .i64 p, .int .i64 q, .int .u32 h6, .int .u32 h7, .int .u32 h8, .int .u64 h9, .int .u64 h10, .int .u64 h11, .int .u64 h12], .slice A' k c', .int .i64 0]) ∧ Bytes w' A' k c' rest ∧ Below w.heap.size w w' := by
 have hl := hv.len; rw [List.length_append, hdBytes_len] at hl; obtain ⟨e0, e1, e2, e3, e4, e5, e6, e7, e8, e9, e10, e11, e12, e13⟩ := dec_enc l v m s p q h6 h7 h8 h9 h10 h11 h12 rest h z6 z7 z8 z9 z10 z11 z12 _ rfl; have hver : v = 3 ∨ v = 4 := by unfold HdOk at h; omega
 refine (dec_ok A n c _ w hv (by omega) hn (by rw [e1]; exact hver)).mono ?_; intro e w' h1; rw [e0, e1, e2, e3, e4, e5, e6, e7, e8, e9, e10, e11, e12, e13] at h1; obtain rfl : k = n - 48 := by omega
 exact h1
end Go.Proofs.YtiemnacoebkalaaGreat
