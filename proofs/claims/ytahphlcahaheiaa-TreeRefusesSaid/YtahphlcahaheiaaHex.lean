import Derived.Test.YtahphlcahaheiaaBld
namespace Go.Proofs.Ytahphlcahaheiaa
open Go.RowKit

/-- A digit. -/
def digit (x : Nat) : UInt8 := if x < 10 then UInt8.ofNat (48 + x) else UInt8.ofNat (87 + x)
/-- Two digits for each byte. -/
def hexL (l : List UInt8) : List UInt8 := l.flatMap fun x => [digit (x.toNat / 16), digit (x.toNat % 16)]
theorem hexL_take (l : List UInt8) (j : Nat) (h : j < l.length) : hexL (l.take (j + 1)) = hexL (l.take j) ++ [digit (byteAt l j / 16)] ++ [digit (byteAt l j % 16)] := by
  have hb : byteAt l j = (l[j]).toNat := by simp [byteAt, h, List.getD]
  rw [List.take_succ_eq_append_getElem h, hb]
  generalize l[j] = x
  generalize l.take j = t
  simp [hexL, List.flatMap_append]
theorem hexL_length (l : List UInt8) : (hexL l).length = 2 * l.length := by
  induction l with
  | nil => rfl
  | cons x l ih => simp only [hexL, List.flatMap_cons, List.length_append, List.length_cons, List.length_nil] at *; omega

theorem digit_at (m : Nat) (h : m < (⟨#[48, 49, 50, 51, 52, 53, 54, 55, 56, 57, 97, 98, 99, 100, 101, 102]⟩ : ByteArray).size) : (⟨#[48, 49, 50, 51, 52, 53, 54, 55, 56, 57, 97, 98, 99, 100, 101, 102]⟩ : ByteArray)[m]'h = digit m := by
  have key : ∀ m : Fin 16, (⟨#[48, 49, 50, 51, 52, 53, 54, 55, 56, 57, 97, 98, 99, 100, 101, 102]⟩ : ByteArray)[m.1]'(m.2) = digit m.1 := by decide +kernel
  exact key ⟨m, h⟩

set_option maxRecDepth 100000 in
set_option maxHeartbeats 2000000 in
theorem hex_any (A : Option Addr) (n c : Nat) (l : List UInt8) (w : World) (hv : Bytes w A n c l) (hn : n ≤ 1000000) :
    Calls Try.prog 67 #[.slice A n c] w fun e w' => e = .returned (.string (strOf (hexL l))) ∧ Below w.heap.size w w' := by
  have hcap := hv.cap
  have hle := hv.le
  have HL := Lib.hid hv.len
  have HV := Lib.hid hv
  clear hv
  go_enter Try.func67, Try.ntmps67
  go_wp2
  go_loopw [8] (fun i wr => ∃ j : Nat, j ≤ n ∧ i = .int .i64 j ∧ Bld w.heap.size w.heap.size (hexL (l.take j)) wr ∧ Below w.heap.size w wr ∧ (j = 0 → wr.heap[w.heap.size]? = some (.cells #[.pointer none, .slice none 0 0] 94 (0, 0)))) (fun i _ => n - (intOf i).toNat)
  case atStart => exact ⟨0, Nat.zero_le _, rfl, bld_fresh w, by go_grown, fun _ => heap_alloc_new w _⟩
  case round =>
    obtain ⟨j, hj, rfl, hbl, hbe, hz0⟩ := hrel
    have HZ := Lib.hid hz0
    clear hz0
    by_cases hjk : j < n
    · obtain ⟨b, off, rfl, hc⟩ := (HV.out.stays hbe).at_ hjk
      have hb1 := byteAt_lt l j
      have hd := digit_at
      have HS := HL.out
      have hl1 : (hexL (l.take j)).length + 1 ≤ 140737488355328 := by rw [hexL_length, List.length_take]; omega
      have hl2 : (hexL (l.take j) ++ [digit (byteAt l j / 16)]).length + 1 ≤ 140737488355328 := by rw [List.length_append, hexL_length, List.length_take]; simp; omega
      have H1 := Lib.hid hl1
      have H2 := Lib.hid hl2
      have hsz := hbe.size
      clear HS hl1 hl2
      go_wp2_with fail
      refine (writeByte_any w.heap.size w.heap.size _ _ _ hbl H1.out hsz).mono ?_
      rintro e w1 ⟨rfl, hbl1, hbe1⟩
      have hbw1 := hbe.trans hbe1
      have hsz1 := hbw1.size
      clear hbl hbe1 hsz
      go_wp2_with fail
      refine (writeByte_any w.heap.size w.heap.size _ _ _ hbl1 H2.out hsz1).mono ?_
      rintro e w2 ⟨rfl, hbl2, hbe2⟩
      have hbw2 := hbw1.trans hbe2
      clear hbl1 hbe2 hsz1
      go_wp2_with fail
      go_roundw
      case rel => exact ⟨j + 1, by omega, by go_num, by rw [hexL_take l j (by rw [HL.out]; exact hjk)]; exact hbl2, hbw2, fun h => by omega⟩
      case measure => simp [intOf]; omega
    · obtain rfl : j = n := by omega
      by_cases hz : j = 0
      · subst hz
        have hnil : l = [] := List.eq_nil_of_length_eq_zero HL.out
        have HNI := Lib.hid hnil
        clear hnil
        go_wp2_with fail
        refine (bldString_nil w.heap.size w.heap.size _ _ (HZ.out (by trivial))).mono ?_
        rintro e w1 ⟨rfl, hb1⟩
        go_wp2
        go_ret
        refine ⟨?_, hbe.trans hb1⟩
        rw [HNI.out]; rfl
      · have hne : hexL (l.take j) ≠ [] := by
          intro e
          have := hexL_length (l.take j)
          rw [e, List.length_take, HL.out] at this
          simp at this
          omega
        have HN := Lib.hid hne
        clear hne
        go_wp2_with fail
        refine (bldString_some w.heap.size w.heap.size _ _ hbl HN.out).mono ?_
        rintro e w1 ⟨rfl, hb1⟩
        go_wp2
        go_ret
        refine ⟨?_, hbe.trans hb1⟩
        simp
        rw [List.take_of_length_le (by rw [HL.out]; exact Nat.le_refl _)]
end Go.Proofs.Ytahphlcahaheiaa
