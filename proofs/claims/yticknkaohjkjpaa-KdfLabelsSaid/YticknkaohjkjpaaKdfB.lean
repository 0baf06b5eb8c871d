/- KdfLabels: the walk. -/
import Derived.Test.YticknkaohjkjpaaKdfK
import Derived.Test.YticknkaohjkjpaaKdfD
import Derived.Test.YticknkaohjkjpaaWithW
namespace Go.Proofs.Yticknkaohjkjpaa
open Go.RowKit

theorem mem_of_zeroB {s : ByteArray} (h : zeroB s = false) : (0 : UInt8) ∉ s.data.toList := by
  unfold zeroB at h
  intro hm
  rw [List.contains_eq_mem] at h
  exact absurd hm (of_decide_eq_false h)
theorem toList_inj {a b : ByteArray} : a.data.toList = b.data.toList ↔ a = b := by
  constructor
  · intro h
    cases a; cases b
    simp at h
    rw [h]
  · intro h; rw [h]
theorem btoList (a : ByteArray) : a.toList = a.data.toList := by
  have := strOf_toList a.data.toList
  simpa [strOf] using this
theorem bneq {a b : ByteArray} (h : ¬ a = b) : (a.toList == b.toList) = false := by
  rw [beq_eq_false_iff_ne]
  intro e
  rw [btoList, btoList, toList_inj] at e
  exact h e
theorem labels_eq {a b c d : ByteArray} (ha : zeroB a = false) (hb : zeroB b = false) (hc : zeroB c = false) (hd : zeroB d = false) (x : List UInt8) : labelL a.data.toList b.data.toList x = labelL c.data.toList d.data.toList x ↔ a = c ∧ b = d := by
  rw [labelL_inj _ _ _ _ _ (mem_of_zeroB ha) (mem_of_zeroB hb) (mem_of_zeroB hc) (mem_of_zeroB hd), toList_inj, toList_inj]
set_option maxRecDepth 100000 in
set_option maxHeartbeats 2000000 in
theorem kdfLabels_walk (a b c d : ByteArray) (A : Option Addr) (n cc : Nat) (x : List UInt8) (w : World) (h : Bytes w A n cc x) (wa : a.size ≤ 9223372036854775807) (wb : b.size ≤ 9223372036854775807) (wc : c.size ≤ 9223372036854775807) (wd : d.size ≤ 9223372036854775807) :
    Calls Try.prog 7 #[.string a, .string b, .string c, .string d, .slice A n cc] w fun e w' => e = .returned (.bool true) ∧ Below w.heap.size w w' := by
  have q1 := h.le
  have q2 := h.cap
  have XB := Lib.hid h
  clear h
  by_cases hna : 40 < a.size
  · have hnia : (a.size : Int) > 40 := by omega
    go_enter Try.func7, Try.ntmps7
    go_wp2_with fail
    refine (kdfKnown _).mono ?_
    rintro e w1 ⟨rfl, hb⟩
    go_wp2
    go_ret
    exact ⟨rfl, hb⟩
  have hnia : ¬ (a.size : Int) > 40 := by omega
  by_cases hnb : 40 < b.size
  · have hnib : (b.size : Int) > 40 := by omega
    go_enter Try.func7, Try.ntmps7
    go_wp2_with fail
    refine (kdfKnown _).mono ?_
    rintro e w1 ⟨rfl, hb⟩
    go_wp2
    go_ret
    exact ⟨rfl, hb⟩
  have hnib : ¬ (b.size : Int) > 40 := by omega
  by_cases hnc : 40 < c.size
  · have hnic : (c.size : Int) > 40 := by omega
    go_enter Try.func7, Try.ntmps7
    go_wp2_with fail
    refine (kdfKnown _).mono ?_
    rintro e w1 ⟨rfl, hb⟩
    go_wp2
    go_ret
    exact ⟨rfl, hb⟩
  have hnic : ¬ (c.size : Int) > 40 := by omega
  by_cases hnd : 40 < d.size
  · have hnid : (d.size : Int) > 40 := by omega
    go_enter Try.func7, Try.ntmps7
    go_wp2_with fail
    refine (kdfKnown _).mono ?_
    rintro e w1 ⟨rfl, hb⟩
    go_wp2
    go_ret
    exact ⟨rfl, hb⟩
  have hnid : ¬ (d.size : Int) > 40 := by omega
  by_cases hnn : 80 < n
  · have hnin : (n : Int) > 80 := by omega
    go_enter Try.func7, Try.ntmps7
    go_wp2_with fail
    refine (kdfKnown _).mono ?_
    rintro e w1 ⟨rfl, hb⟩
    go_wp2
    go_ret
    exact ⟨rfl, hb⟩
  have hnin : ¬ (n : Int) > 80 := by omega
  rcases hza : zeroB a with _ | _
  rotate_left
  · go_enter Try.func7, Try.ntmps7
    go_wp2_with fail
    refine (zero_any a _ (by omega)).mono ?_
    rintro e w0 ⟨rfl, rfl⟩
    rw [hza]
    go_wp2_with fail
    refine (kdfKnown _).mono ?_
    rintro e w1 ⟨rfl, hb⟩
    go_wp2
    go_ret
    exact ⟨rfl, hb⟩
  rcases hzb : zeroB b with _ | _
  rotate_left
  · go_enter Try.func7, Try.ntmps7
    go_wp2_with fail
    refine (zero_any a _ (by omega)).mono ?_
    rintro e w0 ⟨rfl, rfl⟩
    rw [hza]
    go_wp2_with fail
    refine (zero_any b _ (by omega)).mono ?_
    rintro e w0 ⟨rfl, rfl⟩
    rw [hzb]
    go_wp2_with fail
    refine (kdfKnown _).mono ?_
    rintro e w1 ⟨rfl, hb⟩
    go_wp2
    go_ret
    exact ⟨rfl, hb⟩
  rcases hzc : zeroB c with _ | _
  rotate_left
  · go_enter Try.func7, Try.ntmps7
    go_wp2_with fail
    refine (zero_any a _ (by omega)).mono ?_
    rintro e w0 ⟨rfl, rfl⟩
    rw [hza]
    go_wp2_with fail
    refine (zero_any b _ (by omega)).mono ?_
    rintro e w0 ⟨rfl, rfl⟩
    rw [hzb]
    go_wp2_with fail
    refine (zero_any c _ (by omega)).mono ?_
    rintro e w0 ⟨rfl, rfl⟩
    rw [hzc]
    go_wp2_with fail
    refine (kdfKnown _).mono ?_
    rintro e w1 ⟨rfl, hb⟩
    go_wp2
    go_ret
    exact ⟨rfl, hb⟩
  rcases hzd : zeroB d with _ | _
  rotate_left
  · go_enter Try.func7, Try.ntmps7
    go_wp2_with fail
    refine (zero_any a _ (by omega)).mono ?_
    rintro e w0 ⟨rfl, rfl⟩
    rw [hza]
    go_wp2_with fail
    refine (zero_any b _ (by omega)).mono ?_
    rintro e w0 ⟨rfl, rfl⟩
    rw [hzb]
    go_wp2_with fail
    refine (zero_any c _ (by omega)).mono ?_
    rintro e w0 ⟨rfl, rfl⟩
    rw [hzc]
    go_wp2_with fail
    refine (zero_any d _ (by omega)).mono ?_
    rintro e w0 ⟨rfl, rfl⟩
    rw [hzd]
    go_wp2_with fail
    refine (kdfKnown _).mono ?_
    rintro e w1 ⟨rfl, hb⟩
    go_wp2
    go_ret
    exact ⟨rfl, hb⟩
  have HEQ := Lib.hid (labels_eq hza hzb hzc hzd x)
  go_enter Try.func7, Try.ntmps7
  go_wp2_with fail
  refine (zero_any a _ (by omega)).mono ?_
  rintro e w1 ⟨rfl, rfl⟩
  rw [hza]
  go_wp2_with fail
  refine (zero_any b _ (by omega)).mono ?_
  rintro e w1 ⟨rfl, rfl⟩
  rw [hzb]
  go_wp2_with fail
  refine (zero_any c _ (by omega)).mono ?_
  rintro e w1 ⟨rfl, rfl⟩
  rw [hzc]
  go_wp2_with fail
  refine (zero_any d _ (by omega)).mono ?_
  rintro e w1 ⟨rfl, rfl⟩
  rw [hzd]
  clear hza hzb hzc hzd
  go_wp2_with fail
  refine (label_any a b _ _ _ _ _ XB.out (by omega) (by omega)).mono ?_
  rintro e w1 ⟨A7, c7, rfl, hv, hb⟩
  have hbx : Below w.heap.size w w1 := below_via (by go_grown) hb (by first | (simp; done) | (simp; omega))
  have XB := Lib.hid (XB.out.stays hbx)
  have L1 := Lib.hid hv
  have R1 := Lib.hid hbx
  have hs1 := R1.out.size
  clear hb hbx hv
  go_wp2_with fail
  refine (label_any c d _ _ _ _ _ XB.out (by omega) (by omega)).mono ?_
  rintro e w2 ⟨A8, c8, rfl, hv, hb⟩
  have hbx : Below w1.heap.size w1 w2 := below_via (by go_grown) hb (by first | (simp; done) | (simp; omega))
  have XB := Lib.hid (XB.out.stays hbx)
  have L1 := Lib.hid (L1.out.stays hbx)
  have L2 := Lib.hid hv
  have R2 := Lib.hid (R1.out.trans (hbx.mono hs1))
  have hs2 := R2.out.size
  clear hb hbx hv
  clear R1
  go_wp2_with fail
  refine (kdfKnown _).mono ?_
  rintro e w3 ⟨rfl, hb⟩
  have hbx : Below w2.heap.size w2 w3 := below_via (by go_grown) hb (by first | (simp; done) | (simp; omega))
  have XB := Lib.hid (XB.out.stays hbx)
  have L1 := Lib.hid (L1.out.stays hbx)
  have L2 := Lib.hid (L2.out.stays hbx)
  have R3 := Lib.hid (R2.out.trans (hbx.mono hs2))
  have hs3 := R3.out.size
  clear hb hbx 
  clear R2
  by_cases hac : a = c ∧ b = d
  · obtain ⟨rfl, rfl⟩ := hac
    go_wp2_with fail
    refine (refSame_true L1.out L2.out rfl).mono ?_
    rintro e w0 ⟨rfl, rfl⟩
    go_wp2
    go_ret
    exact ⟨by simp, R3.out⟩
  · have HN : Hid (¬ labelL a.data.toList b.data.toList x = labelL c.data.toList d.data.toList x) := fun e => hac (HEQ.out.1 e)
    by_cases hac1 : a = c
    · have hbd : ¬ b = d := fun e => hac ⟨hac1, e⟩
      have hb := bneq hbd
      subst hac1
      clear hac hbd HEQ
      go_wp2_with fail
      refine (refSame_false L1.out L2.out HN.out).mono ?_
      rintro e w0 ⟨rfl, rfl⟩
      go_wp2
      go_ret
      exact ⟨by simp, R3.out⟩
    · have hb := bneq hac1
      clear hac hac1 HEQ
      go_wp2_with fail
      refine (refSame_false L1.out L2.out HN.out).mono ?_
      rintro e w0 ⟨rfl, rfl⟩
      go_wp2
      go_ret
      exact ⟨by simp, R3.out⟩
end Go.Proofs.Yticknkaohjkjpaa
