/- OctetsHex: the walk. -/
import Derived.Test.YtofadjcphaehcaaHexL
import Derived.Test.YtofadjcphaehcaaUnhD
import Derived.Test.YtofadjcphaehcaaOctK
import Derived.Test.YtofadjcphaehcaaSame
namespace Go.Proofs.Ytofadjcphaehcaa
open Go.RowKit

theorem strOf_self (s : ByteArray) : strOf s.data.toList = s := by unfold strOf; cases s; simp
theorem unhexHex_any (l : List UInt8) (n : Nat) (hl : l.length = n) (hn : n ≤ 100) (w : World) :
    Calls Try.prog 25 #[.string (strOf (hexL l))] w fun e w' => ∃ A' c', e = .returned (.tuple #[.slice A' n c', .bool true]) ∧ Bytes w' A' n c' l ∧ Below w.heap.size w w' := by
  have hs : (strOf (hexL l)).size = 2 * n := by rw [show (strOf (hexL l)).size = (hexL l).length by simp [strOf, ByteArray.size], hexL_length, hl]
  refine (unhex_any (strOf (hexL l)) (hexL l) w (by omega) (by simp [strOf])).mono ?_
  rintro e w' ⟨h, hb⟩
  rw [hs, show 2 * n / 2 = n by omega] at h
  rcases h with ⟨_, A', c', rfl, hv⟩ | ⟨h, _⟩
  · have e5 := unhex_hex l
    rw [hl] at e5
    rw [e5] at hv
    exact ⟨A', c', rfl, hv, hb⟩
  · exact absurd (okU_hex l) h
theorem unhex_ok (s : ByteArray) (hs : s.size ≤ 1000) (h : okU s.data.toList) (w : World) :
    Calls Try.prog 25 #[.string s] w fun e w' => ∃ A' c', e = .returned (.tuple #[.slice A' (s.size / 2) c', .bool true]) ∧ Bytes w' A' (s.size / 2) c' (unhexR s.data.toList (s.size / 2)) ∧ Below w.heap.size w w' := by
  refine (unhex_any s _ w hs rfl).mono ?_
  rintro e w' ⟨⟨_, A', c', rfl, hv⟩ | ⟨h', _⟩, hb⟩
  · exact ⟨A', c', rfl, hv, hb⟩
  · exact absurd h h'
theorem unhex_bad (s : ByteArray) (hs : s.size ≤ 1000) (h : ¬ okU s.data.toList) (w : World) :
    Calls Try.prog 25 #[.string s] w fun e w' => e = .returned (.tuple #[.slice none 0 0, .bool false]) ∧ Below w.heap.size w w' := by
  refine (unhex_any s _ w hs rfl).mono ?_
  rintro e w' ⟨⟨h', _⟩ | ⟨_, rfl⟩, hb⟩
  · exact absurd h' h
  · exact ⟨rfl, hb⟩
theorem refUnhex_ok (s : ByteArray) (hs : s.size ≤ 1000) (h : okU s.data.toList) (w : World) :
    Calls Try.prog 27 #[.string s] w fun e w' => ∃ A' c', e = .returned (.tuple #[.slice A' (s.size / 2) c', .bool true]) ∧ Bytes w' A' (s.size / 2) c' (unhexR s.data.toList (s.size / 2)) ∧ Below w.heap.size w w' := by
  refine (refUnhex_any s _ w hs rfl).mono ?_
  rintro e w' ⟨⟨_, A', c', rfl, hv⟩ | ⟨h', _⟩, hb⟩
  · exact ⟨A', c', rfl, hv, hb⟩
  · exact absurd h h'
theorem refUnhex_bad (s : ByteArray) (hs : s.size ≤ 1000) (h : ¬ okU s.data.toList) (w : World) :
    Calls Try.prog 27 #[.string s] w fun e w' => e = .returned (.tuple #[.slice none 0 0, .bool false]) ∧ Below w.heap.size w w' := by
  refine (refUnhex_any s _ w hs rfl).mono ?_
  rintro e w' ⟨⟨h', _⟩ | ⟨_, rfl⟩, hb⟩
  · exact absurd h' h
  · exact ⟨rfl, hb⟩
set_option maxRecDepth 100000 in
set_option maxHeartbeats 4000000 in
theorem octetsHex_walk (A : Option Addr) (nb c : Nat) (l : List UInt8) (s : ByteArray) (w : World) (h : Bytes w A nb c l) (hsz : s.size ≤ 9223372036854775807) :
    Calls Try.prog 6 #[.slice A nb c, .string s] w fun e w' => e = .returned (.bool true) ∧ Below w.heap.size w w' := by
  have q1 := h.le
  have q2 := h.cap
  by_cases hn : 60 < nb
  · have hni : (nb : Int) > 60 := by omega
    clear h
    go_enter Try.func6, Try.ntmps6
    go_wp2_with fail
    refine (octKnown _).mono ?_
    rintro e w1 ⟨rfl, hb⟩
    go_wp2
    go_ret
    exact ⟨rfl, hb⟩
  have hni : ¬ (nb : Int) > 60 := by omega
  by_cases hm : 60 < s.size
  · have hmi : (s.size : Int) > 60 := by omega
    clear h
    go_enter Try.func6, Try.ntmps6
    go_wp2_with fail
    refine (octKnown _).mono ?_
    rintro e w1 ⟨rfl, hb⟩
    go_wp2
    go_ret
    exact ⟨rfl, hb⟩
  have hmi : ¬ (s.size : Int) > 60 := by omega
  have hlen := Lib.hid h.len
  have BB := Lib.hid h
  clear h
  by_cases hok : okU s.data.toList
  · have hls : s.data.toList.length = s.size := Array.length_toList
    have heq : Hid (strOf (hexL (unhexR s.data.toList (s.size / 2))) = s) := by
      unfold Hid
      rw [hex_unhex _ _ hok (by have := hok.1; omega), strOf_self]
    have HOK := Lib.hid hok
    clear hok hls
    obtain ⟨m, hm2⟩ : ∃ m, s.size / 2 = m := ⟨_, rfl⟩
    have hm3 : m ≤ 30 := by omega
    have hu := Lib.hid (fun W => unhex_ok s (by omega) HOK.out W)
    have hru := Lib.hid (fun W => refUnhex_ok s (by omega) HOK.out W)
    rw [hm2] at hu hru heq
    clear hm2
    generalize unhexR s.data.toList m = u at *
    go_enter Try.func6, Try.ntmps6
    go_wp2_with fail
    refine (hex_any _ _ _ _ _ BB.out (by omega)).mono ?_
    rintro e w1 ⟨rfl, hb⟩
    have hbx : Below w.heap.size w w1 := below_via (by go_grown) hb (by first | (simp; done) | (simp; omega))
    have BB := Lib.hid (BB.out.stays hbx)
    have R1 := Lib.hid hbx
    have hs1 := R1.out.size
    clear hb hbx 
    go_wp2_with fail
    refine (unhexHex_any l nb hlen.out (by omega) _).mono ?_
    rintro e w2 ⟨A1, c1, rfl, hv, hb⟩
    have hbx : Below w1.heap.size w1 w2 := below_via (by go_grown) hb (by first | (simp; done) | (simp; omega))
    have BB := Lib.hid (BB.out.stays hbx)
    have X1 := Lib.hid hv
    have R2 := Lib.hid (R1.out.trans (hbx.mono hs1))
    have hs2 := R2.out.size
    clear hb hbx hv
    clear R1
    go_wp2_with fail
    refine (hu.out _).mono ?_
    rintro e w3 ⟨A2, c2, rfl, hv, hb⟩
    have hbx : Below w2.heap.size w2 w3 := below_via (by go_grown) hb (by first | (simp; done) | (simp; omega))
    have BB := Lib.hid (BB.out.stays hbx)
    have X1 := Lib.hid (X1.out.stays hbx)
    have Y1 := Lib.hid hv
    have R3 := Lib.hid (R2.out.trans (hbx.mono hs2))
    have hs3 := R3.out.size
    clear hb hbx hv
    clear R2
    go_wp2_with fail
    refine (hru.out _).mono ?_
    rintro e w4 ⟨A3, c3, rfl, hv, hb⟩
    have hbx : Below w3.heap.size w3 w4 := below_via (by go_grown) hb (by first | (simp; done) | (simp; omega))
    have BB := Lib.hid (BB.out.stays hbx)
    have X1 := Lib.hid (X1.out.stays hbx)
    have Y1 := Lib.hid (Y1.out.stays hbx)
    have Z1 := Lib.hid hv
    have R4 := Lib.hid (R3.out.trans (hbx.mono hs3))
    have hs4 := R4.out.size
    clear hb hbx hv
    clear R3
    go_wp2_with fail
    refine (octKnown _).mono ?_
    rintro e w5 ⟨rfl, hb⟩
    have hbx : Below w4.heap.size w4 w5 := below_via (by go_grown) hb (by first | (simp; done) | (simp; omega))
    have BB := Lib.hid (BB.out.stays hbx)
    have X1 := Lib.hid (X1.out.stays hbx)
    have Y1 := Lib.hid (Y1.out.stays hbx)
    have Z1 := Lib.hid (Z1.out.stays hbx)
    have R5 := Lib.hid (R4.out.trans (hbx.mono hs4))
    have hs5 := R5.out.size
    clear hb hbx 
    clear R4
    go_wp2_with fail
    refine (hex_any _ _ _ _ _ BB.out (by omega)).mono ?_
    rintro e w6 ⟨rfl, hb⟩
    have hbx : Below w5.heap.size w5 w6 := below_via (by go_grown) hb (by first | (simp; done) | (simp; omega))
    have BB := Lib.hid (BB.out.stays hbx)
    have X1 := Lib.hid (X1.out.stays hbx)
    have Y1 := Lib.hid (Y1.out.stays hbx)
    have Z1 := Lib.hid (Z1.out.stays hbx)
    have R6 := Lib.hid (R5.out.trans (hbx.mono hs5))
    have hs6 := R6.out.size
    clear hb hbx 
    clear R5
    go_wp2_with fail
    refine (refHex_any _ _ _ _ _ BB.out (by omega)).mono ?_
    rintro e w7 ⟨rfl, hb⟩
    have hbx : Below w6.heap.size w6 w7 := below_via (by go_grown) hb (by first | (simp; done) | (simp; omega))
    have BB := Lib.hid (BB.out.stays hbx)
    have X1 := Lib.hid (X1.out.stays hbx)
    have Y1 := Lib.hid (Y1.out.stays hbx)
    have Z1 := Lib.hid (Z1.out.stays hbx)
    have R7 := Lib.hid (R6.out.trans (hbx.mono hs6))
    have hs7 := R7.out.size
    clear hb hbx 
    clear R6
    go_wp2_with fail
    refine (refSame_true X1.out BB.out rfl).mono ?_
    rintro e w8 ⟨rfl, rfl⟩
    go_wp2_with fail
    refine (refSame_true Y1.out Z1.out rfl).mono ?_
    rintro e w8 ⟨rfl, rfl⟩
    go_wp2_with fail
    refine (hex_any _ _ _ _ _ Y1.out (by omega)).mono ?_
    rintro e w8 ⟨rfl, hb⟩
    have hbx : Below w7.heap.size w7 w8 := below_via (by go_grown) hb (by first | (simp; done) | (simp; omega))
    have BB := Lib.hid (BB.out.stays hbx)
    have X1 := Lib.hid (X1.out.stays hbx)
    have Y1 := Lib.hid (Y1.out.stays hbx)
    have Z1 := Lib.hid (Z1.out.stays hbx)
    have R8 := Lib.hid (R7.out.trans (hbx.mono hs7))
    have hs8 := R8.out.size
    clear hb hbx 
    clear R7
    rw [heq.out]
    go_wp2
    go_ret
    exact ⟨rfl, R8.out⟩
  · have HOK := Lib.hid hok
    clear hok
    go_enter Try.func6, Try.ntmps6
    go_wp2_with fail
    refine (hex_any _ _ _ _ _ BB.out (by omega)).mono ?_
    rintro e w1 ⟨rfl, hb⟩
    have hbx : Below w.heap.size w w1 := below_via (by go_grown) hb (by first | (simp; done) | (simp; omega))
    have BB := Lib.hid (BB.out.stays hbx)
    have R1 := Lib.hid hbx
    have hs1 := R1.out.size
    clear hb hbx 
    go_wp2_with fail
    refine (unhexHex_any l nb hlen.out (by omega) _).mono ?_
    rintro e w2 ⟨A1, c1, rfl, hv, hb⟩
    have hbx : Below w1.heap.size w1 w2 := below_via (by go_grown) hb (by first | (simp; done) | (simp; omega))
    have BB := Lib.hid (BB.out.stays hbx)
    have X1 := Lib.hid hv
    have R2 := Lib.hid (R1.out.trans (hbx.mono hs1))
    have hs2 := R2.out.size
    clear hb hbx hv
    clear R1
    go_wp2_with fail
    refine (unhex_bad s (by omega) HOK.out _).mono ?_
    rintro e w3 ⟨rfl, hb⟩
    have hbx : Below w2.heap.size w2 w3 := below_via (by go_grown) hb (by first | (simp; done) | (simp; omega))
    have BB := Lib.hid (BB.out.stays hbx)
    have X1 := Lib.hid (X1.out.stays hbx)
    have R3 := Lib.hid (R2.out.trans (hbx.mono hs2))
    have hs3 := R3.out.size
    clear hb hbx 
    clear R2
    go_wp2_with fail
    refine (refUnhex_bad s (by omega) HOK.out _).mono ?_
    rintro e w4 ⟨rfl, hb⟩
    have hbx : Below w3.heap.size w3 w4 := below_via (by go_grown) hb (by first | (simp; done) | (simp; omega))
    have BB := Lib.hid (BB.out.stays hbx)
    have X1 := Lib.hid (X1.out.stays hbx)
    have R4 := Lib.hid (R3.out.trans (hbx.mono hs3))
    have hs4 := R4.out.size
    clear hb hbx 
    clear R3
    go_wp2_with fail
    refine (octKnown _).mono ?_
    rintro e w5 ⟨rfl, hb⟩
    have hbx : Below w4.heap.size w4 w5 := below_via (by go_grown) hb (by first | (simp; done) | (simp; omega))
    have BB := Lib.hid (BB.out.stays hbx)
    have X1 := Lib.hid (X1.out.stays hbx)
    have R5 := Lib.hid (R4.out.trans (hbx.mono hs4))
    have hs5 := R5.out.size
    clear hb hbx 
    clear R4
    go_wp2_with fail
    refine (hex_any _ _ _ _ _ BB.out (by omega)).mono ?_
    rintro e w6 ⟨rfl, hb⟩
    have hbx : Below w5.heap.size w5 w6 := below_via (by go_grown) hb (by first | (simp; done) | (simp; omega))
    have BB := Lib.hid (BB.out.stays hbx)
    have X1 := Lib.hid (X1.out.stays hbx)
    have R6 := Lib.hid (R5.out.trans (hbx.mono hs5))
    have hs6 := R6.out.size
    clear hb hbx 
    clear R5
    go_wp2_with fail
    refine (refHex_any _ _ _ _ _ BB.out (by omega)).mono ?_
    rintro e w7 ⟨rfl, hb⟩
    have hbx : Below w6.heap.size w6 w7 := below_via (by go_grown) hb (by first | (simp; done) | (simp; omega))
    have BB := Lib.hid (BB.out.stays hbx)
    have X1 := Lib.hid (X1.out.stays hbx)
    have R7 := Lib.hid (R6.out.trans (hbx.mono hs6))
    have hs7 := R7.out.size
    clear hb hbx 
    clear R6
    go_wp2_with fail
    refine (refSame_true X1.out BB.out rfl).mono ?_
    rintro e w8 ⟨rfl, rfl⟩
    go_wp2_with fail
    refine (refSame_true (Bytes.nil _ none 0 (by decide)) (Bytes.nil _ none 0 (by decide)) rfl).mono ?_
    rintro e w8 ⟨rfl, rfl⟩
    go_wp2
    go_ret
    exact ⟨rfl, R7.out⟩
end Go.Proofs.Ytofadjcphaehcaa
