/- sectimeref01.Unhex, Hex. -/
import Derived.Test.YtofadjcphaehcaaUnhB
import Derived.Test.YtofadjcphaehcaaApp
import Derived.Test.YtofadjcphaehcaaReg
import Derived.StillTactics
import Derived.Deep.RegionLaw
import Derived.Deep.DeepCutAuto
namespace Go.Proofs.Ytofadjcphaehcaa
open Go.RowKit

theorem digit_nat : ∀ x < 16, ∀ c < 256, ((digit x).toNat = c ↔ hexV c = some x) := by decide +kernel
theorem digit_lt (x : Nat) : (digit x).toNat < 256 := UInt8.toNat_lt _
theorem digit_any (x : Nat) (hx : x < 16) (w : World) : Calls Try.prog 70 #[.int .i64 x] w fun e w' => e = .returned (.int .u8 (digit x).toNat) ∧ w' = w := by
  by_cases h : x < 10
  · have hi : (x : Int) < 10 := by omega
    have hd : ((digit x).toNat : Int) = 48 + (x : Int) := by unfold digit; rw [if_pos h]; simp; omega
    have HD := Lib.hid hd
    clear hd
    go_enter Try.func70, Try.ntmps70
    go_wp2
    go_ret
    exact ⟨by rw [HD.out]; simp; try omega, rfl⟩
  · have hi : ¬ (x : Int) < 10 := by omega
    have hd : ((digit x).toNat : Int) = 87 + (x : Int) := by unfold digit; rw [if_neg h]; simp; omega
    have HD := Lib.hid hd
    clear hd
    go_enter Try.func70, Try.ntmps70
    go_wp2
    go_ret
    exact ⟨by rw [HD.out]; simp; try omega, rfl⟩
theorem digit_int (K : Int) (w : World) (h0 : 0 ≤ K) (h1 : K < 16) : Calls Try.prog 70 #[.int .i64 K] w fun e w' => e = .returned (.int .u8 (digit K.toNat).toNat) ∧ w' = w := by
  obtain ⟨x, rfl⟩ := Int.eq_ofNat_of_zero_le h0
  exact digit_any x (by omega) w
section
variable {P : Program} {w : World} {B e size n c m c2 : Nat} {A A2 : Option Addr} {xs news : List Value}
theorem step_append_rd {ops : Array Oper} {o : Oper} {a : Act} {K : Act → World → Prop} {Q : Exit → Act → World → Prop} {E : Prop} (hgd : o.guard = none) (s x : Operand) (t : TypeId)
    (ho : o.op = .call { callee := .builtin .append, args := #[s, x], argTypes := #[t, t] })
    (i : TypeInfo) (z : Value) (bytes : Nat) (ht : P.underlying t = some (.slice e)) (hi : P.info? e = some i) (hz : i.zero = some z)
    (hsize : i.size = size) (hby : i.bytes = bytes) (hzs : z.cells.size = size) (hsz : 0 < size)
    (hs : a.eval s = .slice A n c) (hown : w.ownsRow B e size (.slice A n c) n xs) (hx : a.eval x = .slice A2 m c2) (hr : Rd w size A2 m c2 news) (h1 : ∀ u ∈ news, u.oneCell' = true)
    (h63 : n + m ≤ maxLen) (hbytes : (n + m) * bytes ≤ 140737488355328) (hbase : B ≤ w.heap.size)
    (h : ∀ A' c' w', w'.ownsRow B e size (.slice A' (n + m) c') (n + m) (xs ++ news) → Below B w w' → K (a.put o.dst (.slice A' (n + m) c')) w') :
    if Region.wanted o (yielded ops a.tmps) = true then Oper.wp P o a w K Q else E := by
  have hw : Region.wanted o (yielded ops a.tmps) = true := by simp [Region.wanted, hgd]
  rw [if_pos hw]
  obtain ⟨A', c', w', hrun, h2, h3, h4⟩ := run_append_rd (P := P) t o.type i z bytes ht hi hz hsize hby hzs hsz hown hr h1 h63 hbytes hbase
  unfold Oper.wp
  simp [execOp, ho, resolve, invoke, builtin, hs, hx, hrun, Result.andThen]
  exact h A' c' w' h2 ((Below.refl B w).grown h3 hbase (fun k hk => (hown.lt k hk).1))
end
theorem and15_8 : ∀ x < 256, bits .and .u8 ((x : Nat) : Int) 15 = ((x % 16 : Nat) : Int) := by decide +kernel
theorem rd_lit2 (w : World) (e : TypeId) (a b : Value) : Rd (w.alloc (.cells #[a, b] e)) 1 (some ⟨w.heap.size, 0, none⟩) 2 2 [a, b] := by
  refine ⟨rfl, Nat.le_refl _, by decide, fun i u hu => ⟨w.heap.size, 0, rfl, ?_⟩⟩
  rw [Nat.zero_add, cell_of_row _ _ _ _ _ (0, 0) (heap_alloc_new _ _), ← hu]
  simp
set_option maxRecDepth 100000 in
set_option maxHeartbeats 2000000 in
theorem refHex_any (A : Option Addr) (n c : Nat) (l : List UInt8) (w : World) (h : Bytes w A n c l) (hn : n ≤ 100000) :
    Calls Try.prog 28 #[.slice A n c] w fun e w' => e = .returned (.string (strOf (hexL l))) ∧ Below w.heap.size w w' := by
  obtain ⟨i0, hi, hz0, hz1, hz2⟩ := info_parts infoByteA
  have q1 := h.le
  have q2 := h.cap
  have HL := Lib.hid h.len
  have HB := Lib.hid h
  clear h
  go_enter Try.func28, Try.ntmps28
  go_wp2
  go_loopw [3, 4] (fun o i wr => ∃ (j m cc : Nat) (AA : Option Addr), j ≤ n ∧ o = .slice AA m cc ∧ i = .int .i64 j ∧ Hid (m = 2 * j) ∧ Hid (wr.ownsRow w.heap.size 5 1 (.slice AA m cc) m ((hexL (l.take j)).map byteV)) ∧ Below w.heap.size w wr) (fun _ i _ => n - (intOf i).toNat)
  case atStart => exact ⟨0, 0, 0, _, Nat.zero_le _, rfl, rfl, rfl, by simpa [Hid, hexL] using World.ownsRow_lit (base := w.heap.size) (e := 5) (size := 1) w #[] 0 (Nat.le_refl _) (by decide) rfl, by go_grown⟩
  case round =>
    obtain ⟨j, m, cc, AA, hj, rfl, rfl, hm, HO, hbr⟩ := hrel
    have hsr := hbr.size
    by_cases hjn : j < n
    · have hji : (j : Int) < (n : Int) := by omega
      obtain ⟨b, off, rfl, hc⟩ := (HB.out.stays hbr).at_ hjn
      have hb1 := byteAt_lt l j
      have HT := Lib.hid (hexL_take l j (by rw [HL.out]; exact hjn))
      generalize byteAt l j = x at *
      have w1 : IntKind.i64.wrap ((x : Int) / 16) = (x : Int) / 16 := IntWalk.i64_in _ (by omega)
      have w3 : bits BinOp.and IntKind.u8 (x : Int) 15 = (x : Int) % 16 := by rw [and15_8 x hb1]; omega
      have w2 : IntKind.i64.wrap ((x : Int) % 16) = (x : Int) % 16 := IntWalk.i64_in _ (by omega)
      have t1 : ((x : Int) / 16).toNat = x / 16 := by omega
      have t2 : ((x : Int) % 16).toNat = x % 16 := by omega
      go_wp2_with fail
      have HM2 : Hid (m ≤ 200000) := by have := hm.out; unfold Hid; omega
      go_region_law (first
        | (refine step_append_rd rfl _ _ 23 rfl i0 (.int .u8 0) 1 Try.underlying23 hi hz0 hz1 hz2 rfl (by decide) rfl (own_below HO.out (by go_grown)) rfl ((rd_lit2 _ _ _ _).stays ((Below.refl _ _).drew)) (by simp [Value.oneCell']) (by have := HM2.out; unfold maxLen; omega) (by have := HM2.out; omega) (by first | omega | (simp; omega)) ?_; intro A8 c8 w8 hown8 hb8)
        | (go_simp; go_at_call 70; refine (digit_int _ _ (by omega) (by omega)).mono ?_; rintro e wx ⟨rfl, rfl⟩))
      all_goals
        have hB8 : Below w.heap.size w w8 := (show Below w.heap.size w _ by go_grown).trans hb8
        have H8 := Lib.hid hown8
        clear hown8
        go_wp2
        go_roundw
        case rel =>
          refine ⟨j + 1, m + 2, c8, A8, by omega, rfl, by go_num, by have := hm.out; unfold Hid; omega, ?_, hB8⟩
          unfold Hid
          rw [HT.out, List.map_append, List.map_append, List.append_assoc]
          have h8 := H8.out
          simpa [byteV] using h8
        case measure => simp [intOf]; omega
    · obtain rfl : j = n := by omega
      have hr : Bytes wr AA m cc (hexL (l.take j)) := own_rd HO.out
      rw [List.take_of_length_le (by rw [HL.out]; exact Nat.le_refl _)] at hr
      have e1 := conv_str (P := Try.prog) hr 23 9 5 Try.underlying23 Try.underlying5 Try.underlying9
      clear hr
      go_wp2
      go_ret
      exact ⟨rfl, hbr⟩
end Go.Proofs.Ytofadjcphaehcaa
