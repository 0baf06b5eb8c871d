/- sectimeref01.Unhex. -/
import Derived.Test.YtofadjcphaehcaaUnhC
namespace Go.Proofs.Ytofadjcphaehcaa
open Go.RowKit

theorem byteAt_str (s : ByteArray) (l : List UInt8) (hl : s.data.toList = l) (i : Nat) (h : i < s.size) : (s[i]'h).toNat = byteAt l i := by
  subst hl
  have hi : i < s.data.toList.length := by rw [Array.length_toList]; exact h
  unfold byteAt
  rw [List.getD, List.getElem?_eq_getElem hi]
  rfl
theorem digit_eq (l : List UInt8) (i x : Nat) (hx : x < 16) : (digit x).toNat = byteAt l i ↔ good l i ∧ dU l i = x := by
  rw [digit_nat x hx _ (byteAt_lt l i)]
  unfold good dU
  cases h : hexV (byteAt l i) with
  | none => simp
  | some d => simp
def pairN (l : List UInt8) (j : Nat) : Nat := 16 * dU l (2 * j) + dU l (2 * j + 1)
theorem pairN_lt (l : List UInt8) (j : Nat) : pairN l j < 256 := by
  have := dU_lt l (2 * j); have := dU_lt l (2 * j + 1); unfold pairN; omega
theorem unhexR_succ (l : List UInt8) (j : Nat) : unhexR l (j + 1) = unhexR l j ++ [UInt8.ofNat (pairN l j)] := by
  unfold unhexR
  rw [List.range_succ, List.map_append]
  rfl
set_option maxRecDepth 100000 in
set_option maxHeartbeats 4000000 in
theorem refUnhex_any (s : ByteArray) (l : List UInt8) (w : World) (hs : s.size ≤ 1000) (hl : s.data.toList = l) :
    Calls Try.prog 27 #[.string s] w fun e w' => ((okU l ∧ ∃ A' c', e = .returned (.tuple #[.slice A' (s.size / 2) c', .bool true]) ∧ Bytes w' A' (s.size / 2) c' (unhexR l (s.size / 2))) ∨
      (¬ okU l ∧ e = .returned (.tuple #[.slice none 0 0, .bool false]))) ∧ Below w.heap.size w w' := by
  obtain ⟨i0, hi, hz0, hz1, hz2⟩ := info_parts infoByteA
  have hll : l.length = s.size := by rw [← hl]; exact Array.length_toList
  have HLL := Lib.hid hll
  have HL0 := Lib.hid hl
  clear hll hl
  by_cases hodd : s.size % 2 = 0
  · have hoi : (s.size : Int) % 2 = 0 := by omega
    obtain ⟨n, hn⟩ : ∃ n, s.size / 2 = n := ⟨_, rfl⟩
    have hsn : s.size = 2 * n := by omega
    have HOK := Lib.hid hodd
    rw [hn]
    go_enter Try.func27, Try.ntmps27
    go_wp2
    clear hodd hoi hn
    go_loopw [4, 5, 6, 7] (fun o i _ _ wr => ∃ (j m cc : Nat) (AA : Option Addr), j ≤ n ∧ o = .slice AA m cc ∧ i = .int .i64 (2 * (j : Int)) ∧ Hid (m = j) ∧ Hid (∀ i, i < 2 * j → good l i) ∧ Hid (wr.ownsRow w.heap.size 5 1 (.slice AA m cc) m ((unhexR l j).map byteV)) ∧ Below w.heap.size w wr) (fun _ i _ _ _ => 2 * n - (intOf i).toNat)
    case atStart => exact ⟨0, 0, 0, _, Nat.zero_le _, rfl, rfl, rfl, fun i h => by omega, by simpa [Hid, unhexR] using World.ownsRow_lit (base := w.heap.size) (e := 5) (size := 1) w #[] 0 (Nat.le_refl _) (by decide) rfl, by go_grown⟩
    case round =>
      obtain ⟨j, m, cc, AA, hj, rfl, rfl, hm, HG, HO, hbr⟩ := hrel
      have hsr := hbr.size
      by_cases hjn : j < n
      · have hji : (2 : Int) * (j : Int) < 2 * (n : Int) := by omega
        go_wp2
        go_loopw [6, 7] (fun v k wz => ∃ (q : Nat) (z : Int), q ≤ 256 ∧ k = .int .i64 q ∧ v = .int .i64 z ∧ Hid ((good l (2 * j) ∧ good l (2 * j + 1) ∧ pairN l j < q → z = pairN l j) ∧ (¬ (good l (2 * j) ∧ good l (2 * j + 1) ∧ pairN l j < q) → z = -1)) ∧ Below wr.heap.size wr wz) (fun _ k _ => 256 - (intOf k).toNat)
        case atStart => exact ⟨0, -1, by omega, rfl, rfl, ⟨fun h => by omega, fun _ => rfl⟩, Below.refl _ _⟩
        case round =>
          obtain ⟨q, z, hq, rfl, rfl, HZ, hbz⟩ := hrel
          by_cases hq6 : q < 256
          · have hqi : (q : Int) < 256 := by omega
            have hx1 : 2 * j < s.size := by omega
            have hx2 : 2 * j + 1 < s.size := by omega
            have x1 := byteAt_str s l HL0.out (2 * j) hx1
            have x2 := byteAt_str s l HL0.out (2 * j + 1) hx2
            have t1 : ((q : Int) / 16).toNat = q / 16 := by omega
            have t2 : ((q : Int) % 16).toNat = q % 16 := by omega
            have t3 : ((2 : Int) * (j : Int)).toNat = 2 * j := by omega
            have t4 : ((2 : Int) * (j : Int) + 1).toNat = 2 * j + 1 := by omega
            have w5 : IntKind.i64.wrap ((q : Int) / 16) = (q : Int) / 16 := IntWalk.i64_in _ (by omega)
            have w6 : IntKind.i64.wrap ((q : Int) % 16) = (q : Int) % 16 := IntWalk.i64_in _ (by omega)
            have p1 : (0 : Int) ≤ 2 * (j : Int) := by omega
            have p2 : (0 : Int) ≤ 2 * (j : Int) + 1 := by omega
            have p3 : (2 : Int) * (j : Int) + 1 < 2 * (n : Int) := by omega
            have p4 : IntKind.i64.wrap (2 * (j : Int) + 1) = 2 * (j : Int) + 1 := IntWalk.i64_in _ (by omega)
            have hd1 := digit_eq l (2 * j) (q / 16) (by omega)
            have hd2 := digit_eq l (2 * j + 1) (q % 16) (by omega)
            have hl1 := dU_lt l (2 * j)
            have hl2 := dU_lt l (2 * j + 1)
            by_cases h1 : (digit (q / 16)).toNat = byteAt l (2 * j)
            · have b1 : (((digit (q / 16)).toNat : Int) == (byteAt l (2 * j) : Int)) = true := by rw [h1]; simp
              have g1 := Lib.hid (hd1.1 h1)
              rw [h1] at b1
              have t5 : ((q : Int)).tmod 16 = (q : Int) % 16 := Int.tmod_eq_emod_of_nonneg (by omega)
              by_cases h2 : (digit (q % 16)).toNat = byteAt l (2 * j + 1)
              · have g2 := Lib.hid (hd2.1 h2)
                clear hd1 hd2
                go_wp2_with fail
                refine region_still (by kernel_rfl) (by kernel_rfl) ?_
                repeat ((with_reducible refine wpStill_step (fun K hK => ?_)); go_simp; (with_reducible refine hK _ ?_); clear hK K)
                with_reducible refine wpStill_step (fun K hK => ?_)
                go_simp
                with_reducible refine ⟨_, digit_int _ _ (by omega) (by omega), hK _ ?_⟩
                clear hK K
                repeat ((with_reducible refine wpStill_step (fun K hK => ?_)); go_simp; (with_reducible refine hK _ ?_); clear hK K)
                with_reducible refine wpStill_step (fun K hK => ?_)
                go_simp
                with_reducible refine ⟨_, digit_int _ _ (by omega) (by omega), hK _ ?_⟩
                clear hK K
                repeat ((with_reducible refine wpStill_step (fun K hK => ?_)); go_simp; (with_reducible refine hK _ ?_); clear hK K)
                refine wpStill_nil ?_
                go_wp2
                go_roundw
                case rel =>
                  refine ⟨q + 1, q, by omega, by go_num, rfl, ⟨fun _ => ?_, fun h => ?_⟩, hbz.drew⟩
                  · have e1 := g1.out.2; have e2 := g2.out.2
                    unfold pairN; omega
                  · exfalso
                    refine h ⟨g1.out.1, g2.out.1, ?_⟩
                    have e1 := g1.out.2; have e2 := g2.out.2
                    unfold pairN; omega
                case measure => simp [intOf]; omega
              · have g2 := Lib.hid h2
                have b2 : (((digit (q % 16)).toNat : Int) == (byteAt l (2 * j + 1) : Int)) = false := by simp; omega
                have HD2 := Lib.hid hd2
                clear hd1 hd2 h2
                go_wp2_with fail
                refine region_still (by kernel_rfl) (by kernel_rfl) ?_
                repeat ((with_reducible refine wpStill_step (fun K hK => ?_)); go_simp; (with_reducible refine hK _ ?_); clear hK K)
                with_reducible refine wpStill_step (fun K hK => ?_)
                go_simp
                with_reducible refine ⟨_, digit_int _ _ (by omega) (by omega), hK _ ?_⟩
                clear hK K
                repeat ((with_reducible refine wpStill_step (fun K hK => ?_)); go_simp; (with_reducible refine hK _ ?_); clear hK K)
                with_reducible refine wpStill_step (fun K hK => ?_)
                go_simp
                with_reducible refine ⟨_, digit_int _ _ (by omega) (by omega), hK _ ?_⟩
                clear hK K
                repeat ((with_reducible refine wpStill_step (fun K hK => ?_)); go_simp; (with_reducible refine hK _ ?_); clear hK K)
                refine wpStill_nil ?_
                go_wp2
                go_roundw
                case rel =>
                  refine ⟨q + 1, z, by omega, by go_num, rfl, ⟨fun h => ?_, fun h => ?_⟩, hbz.drew⟩
                  · by_cases hP : pairN l j < q
                    · exact HZ.out.1 ⟨h.1, h.2.1, hP⟩
                    · exfalso
                      refine g2.out (HD2.out.2 ⟨h.2.1, ?_⟩)
                      have e3 := h.2.2
                      unfold pairN at hP e3; omega
                  · exact HZ.out.2 (fun h' => h ⟨h'.1, h'.2.1, by omega⟩)
                case measure => simp [intOf]; omega
            · have b1 : (((digit (q / 16)).toNat : Int) == (byteAt l (2 * j) : Int)) = false := by simp; omega
              have g1 := Lib.hid h1
              have HD1 := Lib.hid hd1
              clear hd1 hd2 h1
              go_wp2_with fail
              refine region_still (by kernel_rfl) (by kernel_rfl) ?_
              repeat ((with_reducible refine wpStill_step (fun K hK => ?_)); go_simp; (with_reducible refine hK _ ?_); clear hK K)
              with_reducible refine wpStill_step (fun K hK => ?_)
              go_simp
              with_reducible refine ⟨_, digit_int _ _ (by omega) (by omega), hK _ ?_⟩
              clear hK K
              repeat ((with_reducible refine wpStill_step (fun K hK => ?_)); go_simp; (with_reducible refine hK _ ?_); clear hK K)
              refine wpStill_nil ?_
              go_wp2
              go_roundw
              case rel =>
                refine ⟨q + 1, z, by omega, by go_num, rfl, ⟨fun h => ?_, fun h => ?_⟩, hbz.drew⟩
                · by_cases hP : pairN l j < q
                  · exact HZ.out.1 ⟨h.1, h.2.1, hP⟩
                  · exfalso
                    refine g1.out (HD1.out.2 ⟨h.1, ?_⟩)
                    have e3 := h.2.2
                    unfold pairN at hP e3; omega
                · exact HZ.out.2 (fun h' => h ⟨h'.1, h'.2.1, by omega⟩)
              case measure => simp [intOf]; omega
          · obtain rfl : q = 256 := by omega
            have hP := pairN_lt l j
            have hbz2 : Below w.heap.size w _ := hbr.trans (hbz.mono hsr)
            have hsz := hbz2.size
            by_cases hgg : good l (2 * j) ∧ good l (2 * j + 1)
            · obtain rfl : z = pairN l j := HZ.out.1 ⟨hgg.1, hgg.2, hP⟩
              have GG := Lib.hid hgg
              clear HZ hgg
              generalize hPP : pairN l j = p at *
              have HPP := Lib.hid hPP
              clear hPP
              have hm5 : m ≤ 1000 := by have := hm.out; omega
              go_wp2_with (at_builtin; refine wpList_append_rd rfl _ _ 23 rfl i0 (.int .u8 0) 1 Try.underlying23 hi hz0 hz1 hz2 rfl (by decide) rfl (own_alloc (own_below HO.out hbz) _) rfl (rd_one _ _ _) (by simp [Value.oneCell']) ?c1 ?c2 ?c3 ?_)
              case c1 => unfold maxLen; omega
              case c2 => omega
              case c3 => first | omega | (simp; omega)
              intro A8 c8 w8 hown8 hg8 hb8
              have H8 := Lib.hid hown8
              have hB8 : Below w.heap.size w w8 := (hbz2.alloc hsz _).trans hb8
              clear hown8 hg8 hb8
              go_wp2
              go_roundw
              case rel =>
                refine ⟨j + 1, m + 1, c8, A8, by omega, rfl, by go_num, by have := hm.out; unfold Hid; omega, fun i hi => ?_, ?_, hB8⟩
                · by_cases e1 : i < 2 * j
                  · exact HG.out i e1
                  · by_cases e2 : i = 2 * j
                    · rw [e2]; exact GG.out.1
                    · rw [show i = 2 * j + 1 by omega]; exact GG.out.2
                · unfold Hid
                  have h8 := H8.out
                  rw [unhexR_succ, HPP.out, List.map_append]
                  simpa [byteV, Nat.mod_eq_of_lt hP] using h8
              case measure => simp [intOf]; omega
            · obtain rfl : z = -1 := HZ.out.2 (fun h => hgg ⟨h.1, h.2.1⟩)
              have GG := Lib.hid hgg
              clear HZ hgg
              go_wp2
              go_returns
              exact ⟨.inr ⟨fun h => GG.out ⟨h.2 _ (by rw [HLL.out]; omega), h.2 _ (by rw [HLL.out]; omega)⟩, rfl⟩, hbz2⟩
      · obtain rfl : j = n := by omega
        go_wp2
        go_returns
        have h5 := own_rd HO.out
        have e5 := hm.out
        subst e5
        exact ⟨.inl ⟨⟨by rw [HLL.out]; exact HOK.out, fun i hi => HG.out i (by rw [HLL.out] at hi; omega)⟩, _, _, rfl, h5⟩, hbr⟩
  · have hoi : ¬ (s.size : Int) % 2 = 0 := by omega
    go_enter Try.func27, Try.ntmps27
    go_wp2
    go_returns
    exact ⟨.inr ⟨fun h => hodd (by rw [← HLL.out]; exact h.1), rfl⟩, by go_grown⟩
end Go.Proofs.Ytofadjcphaehcaa
