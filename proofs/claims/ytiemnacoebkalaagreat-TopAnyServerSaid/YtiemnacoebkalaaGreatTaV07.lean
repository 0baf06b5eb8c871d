import Derived.Test.YtiemnacoebkalaaGreatTaV01
import Derived.Test.YtiemnacoebkalaaGreatTaV03
set_option linter.all false
set_option maxRecDepth 100000
set_option maxHeartbeats 4000000
namespace Go.Proofs.YtiemnacoebkalaaGreat
open Go.RowKit
def hdHead (l v m s : Nat) (p q : Int) : List UInt8 := [UInt8.ofNat (l * 64 + v * 8 + m), UInt8.ofNat s, UInt8.ofNat (p % 256).toNat, UInt8.ofNat (q % 256).toNat]
def hdBytes (l v m s : Nat) (p q : Int) (h6 h7 h8 h9 h10 h11 h12 : Nat) : List UInt8 :=
 hdHead l v m s p q ++ putL h6 4 ++ putL h7 4 ++ putL h8 4 ++ putL h9 8 ++ putL h10 8 ++ putL h11 8 ++ putL h12 8
theorem first_bits : ∀ l < 4, ∀ v < 8, ∀ m < 8, bits .or .i64 (bits .or .i64 ((l : Nat) * 64 : Int) ((v : Nat) * 8 : Int)) ((m : Nat) : Int) = ((l * 64 + v * 8 + m : Nat) : Int) := by decide +kernel

theorem byteV_nat (n : Nat) (h : n < 256) : byteV (UInt8.ofNat n) = .int .u8 n := by simp [byteV, Nat.mod_eq_of_lt h]
theorem byteV_int (x : Int) (h0 : 0 <= x) (h : x < 256) : byteV (UInt8.ofNat x.toNat) = .int .u8 x := by rw [byteV_nat _ (by omega)]; congr 1; omega
theorem hdHead_cells (l v m s : Nat) (p q : Int) (h1 : l <= 3) (h2 : v <= 4) (h3 : m <= 7) (h4 : s <= 255) : (hdHead l v m s p q).map byteV = [.int .u8 (l * 64 + v * 8 + m), .int .u8 s, .int .u8 (p % 256), .int .u8 (q % 256)] := by
 have e : ((l * 64 + v * 8 + m : Nat) : Int) = (l : Int) * 64 + (v : Int) * 8 + (m : Int) := by omega
 simp only [hdHead, List.map_cons, List.map_nil]; rw [byteV_nat _ (by omega), byteV_nat _ (by omega), byteV_int _ (by omega) (by omega), byteV_int _ (by omega) (by omega), e]

theorem encode_ok (l v m s : Nat) (p q : Int) (h6 h7 h8 h9 h10 h11 h12 : Nat) (w : World) (h : HdOk l v m s p q) (z6 : h6 < 4294967296) (z7 : h7 < 4294967296) (z8 : h8 < 4294967296) (z9 : h9 < 18446744073709551616) (z10 : h10 < 18446744073709551616) (z11 : h11 < 18446744073709551616) (z12 : h12 < 18446744073709551616) :
    Calls Tryz.prog 129 #[.agg #[.int .i64 l, .int .i64 v, .int .i64 m, .int .i64 s, .int .i64 p, .int .i64 q, .int .u32 h6, .int .u32 h7, .int .u32 h8, .int .u64 h9, .int .u64 h10, .int .u64 h11, .int .u64 h12]] w
     fun e w' => ∃ A c, e = .returned (.tuple #[.slice A 48 c, .int .i64 0]) ∧ Bytes w' A 48 c (hdBytes l v m s p q h6 h7 h8 h9 h10 h11 h12) ∧ Below w.heap.size w w' := by
 have H := qq h; obtain ⟨⟨a0, b0⟩, ⟨a1, b1⟩, ⟨a2, b2⟩, ⟨a3, b3⟩, ⟨a4, b4⟩, ⟨a5, b5⟩⟩ := h; have hbits := first_bits l (by omega) v (by omega) m (by omega); obtain ⟨i0, hi, hz0, hz1, hz2⟩ := info_parts infoByteA
 go_enter Tryz.func129, Tryz.ntmps129
 go_wp2_with fail
 refine (valid_ok _ _ _ _ _ _ _ _ _ _ _ _ _ _ H.out).mono ?_; rintro e w1 ⟨rfl, hb1⟩; obtain ⟨hc1, hf1, hs1⟩ := below_reads hb1; have hz : w.heap.size < w1.heap.size := by simp at hs1; omega
 have R0 : Below w.heap.size w w1 := below_via (by go_grown) hb1 (by simp); clear hb1
 go_wp2_with fail
 have hsz := hs1; have hd := qq (hdHead_cells l v m s p q (by omega) (by omega) (by omega) (by omega))
 go_loopw [5, 7, 43] (fun out x i wr => ∃ (k n cc : Nat) (AA : Option Addr) (L : List UInt8), k <= 3 ∧ i = .int .i64 k ∧ out = .slice AA n cc ∧ Hid (n = 4 + 4 * k) ∧ Hid (L = hdHead l v m s p q ++ (([h6, h7, h8].take k).map (putL · 4)).flatten) ∧
     wr.ownsRow w1.heap.size 5 1 (.slice AA n cc) n (L.map byteV) ∧ Below w1.heap.size w1 wr) (fun _ _ i _ => 3 - (intOf i).toNat)
 case atStart =>
  refine ⟨0, 4, _, _, hdHead l v m s p q, by omega, rfl, rfl, rfl, by simp [Hid], ?_, by go_grown⟩; have := World.ownsRow_lit (base := w1.heap.size) (e := 5) (size := 1) w1 #[.int .u8 (l * 64 + v * 8 + m), .int .u8 s, .int .u8 (p % 256), .int .u8 (q % 256)] 4 (Nat.le_refl _) (by decide) rfl; rw [hd.out]; exact this
 case round =>
  obtain ⟨k, n, cc, AA, L, hk, rfl, rfl, hn, hL, hown, hbr⟩ := hrel; have hsr := hbr.size
  by_cases hk3 : k < 3
  · have HO := qq hown; clear hown; obtain ⟨x, hx, hx32, hxr⟩ : ∃ x : Nat, Hid ((([h6, h7, h8].take (k + 1)).map (putL · 4)).flatten = (([h6, h7, h8].take k).map (putL · 4)).flatten ++ putL x 4) ∧ x < 4294967296 ∧ ∀ W : World, (Instr.index 216 (.agg #[.int .u32 h6, .int .u32 h7, .int .u32 h8]) (.int .i64 k)).run Tryz.prog W = .ok (.int .u32 x) W := by
     match k, hk3 with
     | 0, _ => exact ⟨h6, by simp [Hid], by omega, fun _ => by kernel_rfl⟩
     | 1, _ => exact ⟨h7, by simp [Hid], by omega, fun _ => by kernel_rfl⟩
     | 2, _ => exact ⟨h8, by simp [Hid], by omega, fun _ => by kernel_rfl⟩
    go_wp2_with fail
    refine (put_reads x 4 (by omega) _).mono ?_; rintro e w2 ⟨Ap, cp, rfl, hp, hb2⟩; have HO2 := qq (own_below HO.out hb2); have HP := qq hp; have hs2 := hb2.size; have hbr2 := hbr.trans (hb2.mono hsr); clear HO hp hb2; have hn' : n <= 100 := by have := hn.out; omega
    go_wp2_with (at_builtin; refine wpList_append_rd rfl _ _ 27 rfl i0 (.int .u8 0) 1 Tryz.underlying27 hi hz0 hz1 hz2 rfl (by decide) rfl HO2.out rfl HP.out (oneCell_bytes _) ?c1 ?c2 ?c3 ?_)
    case c1 => unfold maxLen; omega
    case c2 => omega
    case c3 => omega
    intro A8 c8 w8 hown8 hg8 hb8; have H8 := qq hown8; have hb9 := hbr2.trans hb8; clear hown8 hg8 hb8; go_wp2
    go_roundw
    case rel =>
     refine ⟨k + 1, n + 4, _, _, L ++ putL x 4, by omega, by go_num, rfl, by have := hn.out; unfold Hid; omega, by unfold Hid; rw [hL.out, hx.out, List.append_assoc], ?_, hb9⟩; rw [List.map_append]; exact H8.out
    case measure => simp [intOf]; omega
  · obtain rfl : k = 3 := by omega
    obtain rfl : n = 16 := hn.out; have HO := qq hown; clear hown hn; obtain ⟨hc2, hf2, hs2⟩ := below_reads hbr; have e3 : ((3 : Nat) : Int) = 3 := rfl; rw [e3]; clear e3
    go_wp2_with fail
    go_loopw [5, 9, 61] (fun out x i wz => ∃ (k n cc : Nat) (AA : Option Addr) (L : List UInt8), k <= 4 ∧ i = .int .i64 k ∧ out = .slice AA n cc ∧ Hid (n = 16 + 8 * k) ∧ Hid (L = (hdHead l v m s p q ++ (([h6, h7, h8].take 3).map (putL · 4)).flatten) ++ (([h9, h10, h11, h12].take k).map (putL · 8)).flatten) ∧
        wz.ownsRow w1.heap.size 5 1 (.slice AA n cc) n (L.map byteV) ∧ Below w1.heap.size w1 wz) (fun _ _ i _ => 4 - (intOf i).toNat)
    case atStart => exact ⟨0, 16, _, _, L, by omega, rfl, rfl, rfl, by unfold Hid; rw [hL.out]; simp, HO.out, hbr⟩
    case round =>
     clear HO; rename_i wz _; obtain ⟨k, n, cc, AA, L, hk, rfl, rfl, hn, hL, hown, hbr⟩ := hrel; have hsr := hbr.size
     by_cases hk3 : k < 4
     · have HO := qq hown; clear hown; obtain ⟨x, hx, hx32, hxr⟩ : ∃ x : Nat, Hid ((([h9, h10, h11, h12].take (k + 1)).map (putL · 8)).flatten = (([h9, h10, h11, h12].take k).map (putL · 8)).flatten ++ putL x 8) ∧ x < 18446744073709551616 ∧ ∀ W : World, (Instr.index 217 (.agg #[.int .u64 h9, .int .u64 h10, .int .u64 h11, .int .u64 h12]) (.int .i64 k)).run Tryz.prog W = .ok (.int .u64 x) W := by
        match k, hk3 with
        | 0, _ => exact ⟨h9, by simp [Hid], z9, fun _ => by kernel_rfl⟩
        | 1, _ => exact ⟨h10, by simp [Hid], z10, fun _ => by kernel_rfl⟩
        | 2, _ => exact ⟨h11, by simp [Hid], z11, fun _ => by kernel_rfl⟩
        | 3, _ => exact ⟨h12, by simp [Hid], z12, fun _ => by kernel_rfl⟩
       go_wp2_with fail
       refine (put_reads x 8 (by omega) _).mono ?_; rintro e w2 ⟨Ap, cp, rfl, hp, hb2⟩; have HO2 := qq (own_below HO.out hb2); have HP := qq hp; have hs2 := hb2.size; have hbr2 := hbr.trans (hb2.mono hsr); clear HO hp hb2; have hn' : n <= 100 := by have := hn.out; omega
       go_wp2_with (at_builtin; refine wpList_append_rd rfl _ _ 27 rfl i0 (.int .u8 0) 1 Tryz.underlying27 hi hz0 hz1 hz2 rfl (by decide) rfl HO2.out rfl HP.out (oneCell_bytes _) ?c1 ?c2 ?c3 ?_)
       case c1 => unfold maxLen; omega
       case c2 => omega
       case c3 => omega
       intro A8 c8 w8 hown8 hg8 hb8; have H8 := qq hown8; have hb9 := hbr2.trans hb8; clear hown8 hg8 hb8; go_wp2
       go_roundw
       case rel =>
        refine ⟨k + 1, n + 8, _, _, L ++ putL x 8, by omega, by go_num, rfl, by have := hn.out; unfold Hid; omega, by unfold Hid; rw [hL.out, hx.out, List.append_assoc], ?_, hb9⟩; rw [List.map_append]; exact H8.out
       case measure => simp [intOf]; omega
     · obtain rfl : k = 4 := by omega
       obtain rfl : n = 48 := hn.out; have HO := qq (own_rd hown); clear hown hn; go_wp2; go_ret2; refine ⟨_, _, rfl, ?_, ?_⟩
       · have := HO.out; rw [hL.out] at this
         simpa [hdBytes, Bytes] using this
       · exact R0.trans (hbr.mono (by omega))
theorem ask_any (t : Nat) (w : World) : Calls Tryz.prog 39 #[.int .u64 t] w fun e w' => e = .returned (.agg #[.int .i64 0, .int .i64 4, .int .i64 3, .int .i64 0, .int .i64 6, .int .i64 0, .int .u32 0, .int .u32 0, .int .u32 0, .int .u64 0, .int .u64 0, .int .u64 0, .int .u64 t]) ∧ Below w.heap.size w w' := by
 go_enter Tryz.func39, Tryz.ntmps39
 go_wp2
 go_returns
 exact ⟨rfl, by go_grown⟩
theorem reply_ok (h0 h1 h2 h3 h4 h5 : Int) (h6 h7 h8 h9 h10 h11 h12 : Nat) (s : Int) (r x : Nat) (w : World) (h : HdOk h0 h1 h2 h3 h4 h5) (hm : h2 = 3) (s0 : 0 <= s) (s1 : s <= 255) :
    Calls Tryz.prog 46 #[.agg #[.int .i64 h0, .int .i64 h1, .int .i64 h2, .int .i64 h3, .int .i64 h4, .int .i64 h5, .int .u32 h6, .int .u32 h7, .int .u32 h8, .int .u64 h9, .int .u64 h10, .int .u64 h11, .int .u64 h12], .int .i64 s, .int .u64 r, .int .u64 x] w fun e w' => e = .returned (.tuple #[.agg #[.int .i64 0, .int .i64 h1, .int .i64 4, .int .i64 s, .int .i64 h4, .int .i64 (-20), .int .u32 0, .int .u32 0, .int .u32 0, .int .u64 0, .int .u64 h12, .int .u64 r, .int .u64 x], .int .i64 0]) ∧ Below w.heap.size w w' := by
 subst hm; have H := qq h; have H2 : HdOk 0 h1 4 s h4 (-20) := by unfold HdOk at h ⊢; omega
 clear h; have G2 := qq H2; clear H2
 go_enter Tryz.func46, Tryz.ntmps46
 go_wp2_with fail
 refine (valid_ok _ _ _ _ _ _ _ _ _ _ _ _ _ _ H.out).mono ?_; rintro e w1 ⟨rfl, hb1⟩; obtain ⟨hc1, hf1, hs1⟩ := below_reads hb1; have hz : w.heap.size + 1 < w1.heap.size := by simp at hs1; omega
 have hz0 : w.heap.size < w1.heap.size := by omega
 have hz5 : ¬ w.heap.size + 1 = w1.heap.size := by omega
 have hz6 : ¬ w1.heap.size = w.heap.size + 1 := by omega
 have R0 : Below w.heap.size w w1 := below_via (by go_grown) hb1 (by simp; omega); have hB0 := qq (show Blk w1 (w.heap.size + 1) 48 #[.int .i64 0, .int .i64 0, .int .i64 0, .int .i64 0, .int .i64 0, .int .i64 0, .int .u32 0, .int .u32 0, .int .u32 0, .int .u64 0, .int .u64 0, .int .u64 0, .int .u64 0] by
  have := (Blk.new (w.alloc _) 48 #[.int .i64 0, .int .i64 0, .int .i64 0, .int .i64 0, .int .i64 0, .int .i64 0, .int .u32 0, .int .u32 0, .int .u32 0, .int .u64 0, .int .u64 0, .int .u64 0, .int .u64 0]).stays hb1
  simpa using this)
 clear hb1
 go_simp
 repeat (first | go_values | go_skip | go_guarded | go_step)
 refine (valid_ok 0 h1 4 s h4 (-20) 0 0 0 0 h12 r x _ G2.out).mono ?_; rintro e w2 ⟨rfl, hb2⟩; obtain ⟨hc2, hf2, hs2⟩ := below_reads hb2; have hz2 : w1.heap.size < w2.heap.size := by simp at hs2; omega
 have hz4 : w.heap.size < w2.heap.size := by omega
 have hz3 : w.heap.size + 1 < w2.heap.size := by omega
 have R1 : Below w.heap.size w w2 := R0.trans (below_via (by go_grown) (hb2.mono (by simp)) (by simp; omega)); have hB1 := qq (show Blk w2 (w.heap.size + 1) 48 #[.int .i64 0, .int .i64 0, .int .i64 0, .int .i64 0, .int .i64 0, .int .i64 0, .int .u32 0, .int .u32 0, .int .u32 0, .int .u64 0, .int .u64 0, .int .u64 0, .int .u64 0] from hB0.out.stays (below_via (by go_grown) hb2 (by simp))); clear hb2
 go_simp
 repeat (first | go_values | go_skip | go_guarded | go_step)
 refine bodyPost_ret (results_hdS2 (r := 8) (t := 9) (u := 0) rfl _ rfl hB1.out) rfl ⟨rfl, ?_⟩
 go_grown

end Go.Proofs.YtiemnacoebkalaaGreat
