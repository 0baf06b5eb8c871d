/- persist.Load. -/
import Derived.Test.YtbjmojajhkhekaaPsB
import Derived.Test.YtbjmojajhkhekaaEqB
import Derived.Test.YtbjmojajhkhekaaGet
import Derived.Test.YtbjmojajhkhekaaSl
import Derived.Deep.RegionHeld3
namespace Go.Proofs.Ytbjmojajhkhekaa
open Go.RowKit

def i64of (x : Nat) : Int := IntKind.i64.wrap (x : Int)
def loadN (l : List UInt8) (i : Nat) : Int := i64of (be64 (l.drop (8 * i)) 8)
theorem be64_take (l : List UInt8) (k : Nat) : be64 (l.take k) k = be64 l k := by simp [be64, List.take_take]
set_option maxRecDepth 100000 in
set_option maxHeartbeats 4000000 in
theorem at_any {A : Option Addr} (b_ c : Nat) (l : List UInt8) (w : World) (i : Nat) (hb : Blk w b_ 28 #[.slice A 80 c]) (hv : Bytes w A 80 c l) (hi : i ≤ 9) :
    Calls Try.prog 61 #[.int .i64 i, .pointer (some ⟨b_, 0, none⟩)] w fun e w' => e = .returned (.int .i64 (loadN l i)) ∧ w = w' := by
  have q1 := hv.le
  have q2 := hv.cap
  obtain ⟨lo, hlo⟩ : ∃ lo : Nat, (8 : Int) * (i : Int) = (lo : Int) := ⟨8 * i, by omega⟩
  obtain ⟨hi2, hhi⟩ : ∃ hi2 : Nat, (lo : Int) + 8 = (hi2 : Int) := ⟨lo + 8, by omega⟩
  have s1 := run_cut und_bytes size_byte (A := A) (n := 80) (c := c) lo hi2 lo hi2 8 (c - lo) rfl rfl (by omega) (by omega) (by omega) rfl
  have V := Lib.hid (hv.cutS lo hi2 (by omega) (by omega) (d := 8) (k := c - lo) (by omega) rfl)
  have k0 : w.cell? ⟨b_, 0, none⟩ = some (.slice A 80 c) := hb.cell 0
  have HR : Hid (IntKind.i64.wrap (be64 ((l.drop lo).take 8) 8 : Int) = loadN l i) := by
    unfold Hid loadN i64of
    rw [be64_take, show lo = 8 * i by omega]
  have HB : Hid (be64 ((l.drop lo).take 8) (min 8 ((l.drop lo).take 8).length) = be64 ((l.drop lo).take 8) 8) := by
    unfold Hid
    rw [V.out.len]; rfl
  clear hb hv
  go_enter Try.func61, Try.ntmps61
  go_wp2_with fail
  refine (get_any _ _ _ _ _ V.out).mono ?_
  rintro e w1 ⟨rfl, rfl⟩
  generalize be64 ((l.drop lo).take 8) 8 = y at *
  have H2 := HR.out
  go_wp2
  go_ret
  exact ⟨rfl, rfl⟩
set_option maxRecDepth 100000 in
set_option maxHeartbeats 4000000 in
theorem load_short (A : Option Addr) (n c : Nat) (l : List UInt8) (w : World) (hv : Bytes w A n c l) (hn : n < 80) :
    Calls Try.prog 23 #[.slice A n c] w fun e w' => e = .returned (.tuple #[.agg #[.int .i64 0, .int .i64 0, .int .i64 0, .int .i64 0, .int .i64 0, .int .i64 0, .int .i64 0], .int .i64 1]) ∧ Below w.heap.size w w' := by
  have q1 := hv.le
  have q2 := hv.cap
  have HV := Lib.hid hv
  clear hv
  have n1 : (n : Int) < 80 := by omega
  go_enter Try.func23, Try.ntmps23
  go_upto_region 1 with fail
  obtain ⟨x1, b_, h_, ex1, eb_, eh_⟩ : ∃ x1 b_ h_, x1 = (w.alloc (.cells #[.slice A n c] 28)).alloc (.cells #[.int .i64 0, .int .i64 0, .int .i64 0, .int .i64 0, .int .i64 0, .int .i64 0, .int .i64 0] 41) ∧ b_ = w.heap.size ∧ h_ = w.heap.size + 1 := ⟨_, _, _, rfl, rfl, rfl⟩
  rw [← ex1, ← eh_, ← eb_]
  have hbx : Below w.heap.size w x1 := by rw [ex1]; exact below_alloc2 _ _ _ 
  have o_B_H : b_ < h_ := by omega
  have g_B : w.heap.size ≤ b_ := by rw [eb_]; exact Nat.le_refl _
  have BB := Lib.hid (show Blk x1 b_ 28 #[.slice A n c] by rw [ex1, eb_]; exact blk_new2_0 _ _ _ _ _ )
  have BH := Lib.hid (show Blk x1 h_ 41 #[.int .i64 0, .int .i64 0, .int .i64 0, .int .i64 0, .int .i64 0, .int .i64 0, .int .i64 0] by rw [ex1, eh_]; exact blk_new2_1 _ _ _ _ _ )
  have R2 := Lib.hid hbx
  have hz_x1 := R2.out.size
  clear hbx ex1 eb_ eh_
  have kB_0 : x1.cell? ⟨b_, 0, none⟩ = some (.slice A n c) := BB.out.cell 0
  have V := Lib.hid (HV.out.stays R2.out)
  have cH := BH.out.cell
  have zH := BH.out.frozen
  go_wp2
  clear zH cH
  clear kB_0
  generalize hwd : World.setCell _ ⟨h_, 6, none⟩ _ = wd
  have hwd2 : (stores x1 h_ [.int .i64 0, .int .i64 0, .int .i64 0, .int .i64 0, .int .i64 0, .int .i64 0, .int .i64 0] 0) = wd := hwd
  have D1 : Blk wd h_ 41 #[.int .i64 0, .int .i64 0, .int .i64 0, .int .i64 0, .int .i64 0, .int .i64 0, .int .i64 0] := by rw [← hwd2]; exact (BH.out.filled _ rfl)
  have RD : Below w.heap.size w wd := by rw [← hwd2]; exact (Below.stores (by omega) _ _ _ R2.out)
  clear hwd hwd2
  have d1_0 : wd.cell? ⟨h_, 0, none⟩ = some (.int .i64 0) := D1.cell 0
  have d1_1 : wd.cell? ⟨h_, 1, none⟩ = some (.int .i64 0) := D1.cell 1
  have d1_2 : wd.cell? ⟨h_, 2, none⟩ = some (.int .i64 0) := D1.cell 2
  have d1_3 : wd.cell? ⟨h_, 3, none⟩ = some (.int .i64 0) := D1.cell 3
  have d1_4 : wd.cell? ⟨h_, 4, none⟩ = some (.int .i64 0) := D1.cell 4
  have d1_5 : wd.cell? ⟨h_, 5, none⟩ = some (.int .i64 0) := D1.cell 5
  have d1_6 : wd.cell? ⟨h_, 6, none⟩ = some (.int .i64 0) := D1.cell 6
  try go_wp2_with fail
  refine bodyPost_ret (v := .tuple #[.agg #[.int .i64 0, .int .i64 0, .int .i64 0, .int .i64 0, .int .i64 0, .int .i64 0, .int .i64 0], .int .i64 1]) (by simp [results, Try.results23, go_sem, *]) rfl ⟨rfl, RD⟩
set_option maxRecDepth 100000 in
set_option maxHeartbeats 4000000 in
theorem load_long (A : Option Addr) (n c : Nat) (l : List UInt8) (w : World) (hv : Bytes w A n c l) (hn : 80 < n) :
    Calls Try.prog 23 #[.slice A n c] w fun e w' => e = .returned (.tuple #[.agg #[.int .i64 0, .int .i64 0, .int .i64 0, .int .i64 0, .int .i64 0, .int .i64 0, .int .i64 0], .int .i64 2]) ∧ Below w.heap.size w w' := by
  have q1 := hv.le
  have q2 := hv.cap
  have HV := Lib.hid hv
  clear hv
  have n1 : ¬ (n : Int) < 80 := by omega
  have n2 : (n : Int) > 80 := by omega
  go_enter Try.func23, Try.ntmps23
  go_upto_region 1 with fail
  obtain ⟨x1, b_, h_, ex1, eb_, eh_⟩ : ∃ x1 b_ h_, x1 = (w.alloc (.cells #[.slice A n c] 28)).alloc (.cells #[.int .i64 0, .int .i64 0, .int .i64 0, .int .i64 0, .int .i64 0, .int .i64 0, .int .i64 0] 41) ∧ b_ = w.heap.size ∧ h_ = w.heap.size + 1 := ⟨_, _, _, rfl, rfl, rfl⟩
  rw [← ex1, ← eh_, ← eb_]
  have hbx : Below w.heap.size w x1 := by rw [ex1]; exact below_alloc2 _ _ _ 
  have o_B_H : b_ < h_ := by omega
  have g_B : w.heap.size ≤ b_ := by rw [eb_]; exact Nat.le_refl _
  have BB := Lib.hid (show Blk x1 b_ 28 #[.slice A n c] by rw [ex1, eb_]; exact blk_new2_0 _ _ _ _ _ )
  have BH := Lib.hid (show Blk x1 h_ 41 #[.int .i64 0, .int .i64 0, .int .i64 0, .int .i64 0, .int .i64 0, .int .i64 0, .int .i64 0] by rw [ex1, eh_]; exact blk_new2_1 _ _ _ _ _ )
  have R2 := Lib.hid hbx
  have hz_x1 := R2.out.size
  clear hbx ex1 eb_ eh_
  have kB_0 : x1.cell? ⟨b_, 0, none⟩ = some (.slice A n c) := BB.out.cell 0
  have V := Lib.hid (HV.out.stays R2.out)
  have cH := BH.out.cell
  have zH := BH.out.frozen
  go_wp2
  clear zH cH
  clear kB_0
  generalize hwd : World.setCell _ ⟨h_, 6, none⟩ _ = wd
  have hwd2 : (stores x1 h_ [.int .i64 0, .int .i64 0, .int .i64 0, .int .i64 0, .int .i64 0, .int .i64 0, .int .i64 0] 0) = wd := hwd
  have D1 : Blk wd h_ 41 #[.int .i64 0, .int .i64 0, .int .i64 0, .int .i64 0, .int .i64 0, .int .i64 0, .int .i64 0] := by rw [← hwd2]; exact (BH.out.filled _ rfl)
  have RD : Below w.heap.size w wd := by rw [← hwd2]; exact (Below.stores (by omega) _ _ _ R2.out)
  clear hwd hwd2
  have d1_0 : wd.cell? ⟨h_, 0, none⟩ = some (.int .i64 0) := D1.cell 0
  have d1_1 : wd.cell? ⟨h_, 1, none⟩ = some (.int .i64 0) := D1.cell 1
  have d1_2 : wd.cell? ⟨h_, 2, none⟩ = some (.int .i64 0) := D1.cell 2
  have d1_3 : wd.cell? ⟨h_, 3, none⟩ = some (.int .i64 0) := D1.cell 3
  have d1_4 : wd.cell? ⟨h_, 4, none⟩ = some (.int .i64 0) := D1.cell 4
  have d1_5 : wd.cell? ⟨h_, 5, none⟩ = some (.int .i64 0) := D1.cell 5
  have d1_6 : wd.cell? ⟨h_, 6, none⟩ = some (.int .i64 0) := D1.cell 6
  try go_wp2_with fail
  refine bodyPost_ret (v := .tuple #[.agg #[.int .i64 0, .int .i64 0, .int .i64 0, .int .i64 0, .int .i64 0, .int .i64 0, .int .i64 0], .int .i64 2]) (by simp [results, Try.results23, go_sem, *]) rfl ⟨rfl, RD⟩
set_option maxRecDepth 100000 in
set_option maxHeartbeats 4000000 in
theorem load_form (A : Option Addr) (n c : Nat) (l : List UInt8) (w : World) (hv : Bytes w A n c l) (hn : n = 80) (hf : ¬ l.take 8 = magicL) :
    Calls Try.prog 23 #[.slice A n c] w fun e w' => e = .returned (.tuple #[.agg #[.int .i64 0, .int .i64 0, .int .i64 0, .int .i64 0, .int .i64 0, .int .i64 0, .int .i64 0], .int .i64 3]) ∧ Below w.heap.size w w' := by
  have q1 := hv.le
  have q2 := hv.cap
  have HV := Lib.hid hv
  clear hv
  subst hn
  obtain ⟨sq, hsq⟩ : ∃ sq, strOf (l.take 8) = sq := ⟨_, rfl⟩
  have SQ : sq.toList = l.take 8 := by rw [← hsq, strOf_toList]
  have hform : ¬ sq = (⟨#[115, 101, 99, 116, 105, 109, 101, 49]⟩ : ByteArray) := by
    intro h
    apply hf
    rw [← SQ, h]; exact strOf_toList magicL
  have hform2 : (sq.toList == magicL) = false := by
    rw [SQ]; simpa using hf
  clear hf
  unfold magicL at hform2
  clear SQ
  have HSQ := Lib.hid hsq
  clear hsq
  go_enter Try.func23, Try.ntmps23
  go_upto_region 1 with fail
  obtain ⟨x1, b_, h_, ex1, eb_, eh_⟩ : ∃ x1 b_ h_, x1 = (w.alloc (.cells #[.slice A 80 c] 28)).alloc (.cells #[.int .i64 0, .int .i64 0, .int .i64 0, .int .i64 0, .int .i64 0, .int .i64 0, .int .i64 0] 41) ∧ b_ = w.heap.size ∧ h_ = w.heap.size + 1 := ⟨_, _, _, rfl, rfl, rfl⟩
  rw [← ex1, ← eh_, ← eb_]
  have hbx : Below w.heap.size w x1 := by rw [ex1]; exact below_alloc2 _ _ _ 
  have o_B_H : b_ < h_ := by omega
  have g_B : w.heap.size ≤ b_ := by rw [eb_]; exact Nat.le_refl _
  have BB := Lib.hid (show Blk x1 b_ 28 #[.slice A 80 c] by rw [ex1, eb_]; exact blk_new2_0 _ _ _ _ _ )
  have BH := Lib.hid (show Blk x1 h_ 41 #[.int .i64 0, .int .i64 0, .int .i64 0, .int .i64 0, .int .i64 0, .int .i64 0, .int .i64 0] by rw [ex1, eh_]; exact blk_new2_1 _ _ _ _ _ )
  have R2 := Lib.hid hbx
  have hz_x1 := R2.out.size
  clear hbx ex1 eb_ eh_
  have kB_0 : x1.cell? ⟨b_, 0, none⟩ = some (.slice A 80 c) := BB.out.cell 0
  have V := Lib.hid (HV.out.stays R2.out)
  have cv : (convert 28 9 (.slice A 8 c)).run Try.prog x1 = .ok (.string sq) x1 := by
    have := conv_str (P := Try.prog) (V.out.cutTo 8 (by decide)) 28 9 5 Try.underlying28 Try.underlying5 Try.underlying9
    rw [HSQ.out] at this
    exact this
  have cH := BH.out.cell
  have zH := BH.out.frozen
  go_wp2
  clear zH cH cv
  clear kB_0
  generalize hwd : World.setCell _ ⟨h_, 6, none⟩ _ = wd
  have hwd2 : (stores x1 h_ [.int .i64 0, .int .i64 0, .int .i64 0, .int .i64 0, .int .i64 0, .int .i64 0, .int .i64 0] 0) = wd := hwd
  have D1 : Blk wd h_ 41 #[.int .i64 0, .int .i64 0, .int .i64 0, .int .i64 0, .int .i64 0, .int .i64 0, .int .i64 0] := by rw [← hwd2]; exact (BH.out.filled _ rfl)
  have RD : Below w.heap.size w wd := by rw [← hwd2]; exact (Below.stores (by omega) _ _ _ R2.out)
  clear hwd hwd2
  have d1_0 : wd.cell? ⟨h_, 0, none⟩ = some (.int .i64 0) := D1.cell 0
  have d1_1 : wd.cell? ⟨h_, 1, none⟩ = some (.int .i64 0) := D1.cell 1
  have d1_2 : wd.cell? ⟨h_, 2, none⟩ = some (.int .i64 0) := D1.cell 2
  have d1_3 : wd.cell? ⟨h_, 3, none⟩ = some (.int .i64 0) := D1.cell 3
  have d1_4 : wd.cell? ⟨h_, 4, none⟩ = some (.int .i64 0) := D1.cell 4
  have d1_5 : wd.cell? ⟨h_, 5, none⟩ = some (.int .i64 0) := D1.cell 5
  have d1_6 : wd.cell? ⟨h_, 6, none⟩ = some (.int .i64 0) := D1.cell 6
  try go_wp2_with fail
  refine bodyPost_ret (v := .tuple #[.agg #[.int .i64 0, .int .i64 0, .int .i64 0, .int .i64 0, .int .i64 0, .int .i64 0, .int .i64 0], .int .i64 3]) (by simp [results, Try.results23, go_sem, *]) rfl ⟨rfl, RD⟩
set_option maxRecDepth 100000 in
set_option maxHeartbeats 4000000 in
theorem load_auth (A : Option Addr) (n c : Nat) (l : List UInt8) (w : World) (hv : Bytes w A n c l) (hn : n = 80) (hf : l.take 8 = magicL) (ha : ¬ shortL (l.take 64) = l.drop 64) :
    Calls Try.prog 23 #[.slice A n c] w fun e w' => e = .returned (.tuple #[.agg #[.int .i64 0, .int .i64 0, .int .i64 0, .int .i64 0, .int .i64 0, .int .i64 0, .int .i64 0], .int .i64 6]) ∧ Below w.heap.size w w' := by
  have q1 := hv.le
  have q2 := hv.cap
  have HV := Lib.hid hv
  clear hv
  subst hn
  obtain ⟨sq, hsq⟩ : ∃ sq, strOf (l.take 8) = sq := ⟨_, rfl⟩
  have SQ : sq.toList = l.take 8 := by rw [← hsq, strOf_toList]
  have hform : sq = (⟨#[115, 101, 99, 116, 105, 109, 101, 49]⟩ : ByteArray) := by
    have h1 : strOf (l.take 8) = strOf magicL := by rw [hf]
    rw [← hsq, h1]; rfl
  clear hf
  subst hform
  clear SQ
  have HSQ := Lib.hid hsq
  clear hsq
  have da : decide (shortL (l.take 64) = l.drop 64) = false := decide_eq_false ha
  clear ha
  go_enter Try.func23, Try.ntmps23
  go_upto_region 1 with fail
  obtain ⟨x1, b_, h_, ex1, eb_, eh_⟩ : ∃ x1 b_ h_, x1 = (w.alloc (.cells #[.slice A 80 c] 28)).alloc (.cells #[.int .i64 0, .int .i64 0, .int .i64 0, .int .i64 0, .int .i64 0, .int .i64 0, .int .i64 0] 41) ∧ b_ = w.heap.size ∧ h_ = w.heap.size + 1 := ⟨_, _, _, rfl, rfl, rfl⟩
  rw [← ex1, ← eh_, ← eb_]
  have hbx : Below w.heap.size w x1 := by rw [ex1]; exact below_alloc2 _ _ _ 
  have o_B_H : b_ < h_ := by omega
  have g_B : w.heap.size ≤ b_ := by rw [eb_]; exact Nat.le_refl _
  have BB := Lib.hid (show Blk x1 b_ 28 #[.slice A 80 c] by rw [ex1, eb_]; exact blk_new2_0 _ _ _ _ _ )
  have BH := Lib.hid (show Blk x1 h_ 41 #[.int .i64 0, .int .i64 0, .int .i64 0, .int .i64 0, .int .i64 0, .int .i64 0, .int .i64 0] by rw [ex1, eh_]; exact blk_new2_1 _ _ _ _ _ )
  have R2 := Lib.hid hbx
  have hz_x1 := R2.out.size
  clear hbx ex1 eb_ eh_
  have kB_0 : x1.cell? ⟨b_, 0, none⟩ = some (.slice A 80 c) := BB.out.cell 0
  have V := Lib.hid (HV.out.stays R2.out)
  have cv : (convert 28 9 (.slice A 8 c)).run Try.prog x1 = .ok (.string ⟨#[115, 101, 99, 116, 105, 109, 101, 49]⟩) x1 := by
    have := conv_str (P := Try.prog) (V.out.cutTo 8 (by decide)) 28 9 5 Try.underlying28 Try.underlying5 Try.underlying9
    rw [HSQ.out] at this
    exact this
  go_upto_region 7 with fail
  clear cv
  clear kB_0
  have c64 : (64 : Int) ≤ (c : Int) := by omega
  have c64b : 64 ≤ c := by omega
  have c64c : ¬ c < 64 := by omega
  have s64 := run_cutFrom und_bytes size_byte (A := A) (n := 80) (c := c) 64 64 16 (c - 64) rfl (by decide) rfl rfl
  have H64 := Lib.hid (V.out.cutTo 64 (by decide))
  have T64 := Lib.hid (V.out.cutFrom 64 (by decide) (d := 16) (k := c - 64) rfl rfl)
  have kB_0 : x1.cell? ⟨b_, 0, none⟩ = some (.slice A 80 c) := BB.out.cell 0
  go_region_held3 (fun w' => w'.cell? ⟨b_, 0, none⟩ = some (.slice A 80 c)) (go_keep)
    (first
      | (go_at_call 57; (with_reducible refine (short_any (l.take 64) _ _ _ _ (H64.out.stays (by go_grown))).mono ?_); rintro e wq ⟨Aq, rfl, hq, hb⟩; have qq : Below x1.heap.size x1 wq := below_via (by go_grown) hb (by first | (simp; done) | (simp; omega)); have z0 : wq.cell? ⟨b_, 0, none⟩ = some (.slice A 80 c) := (BB.out.stays qq).cell 0)
      | (go_at_call 60; (with_reducible refine (bytesEqual_any _ _ _ _ _ _ _ _ _ hq (T64.out.stays qq)).mono ?_); rintro e w9 ⟨rfl, rfl⟩; rw [da]))
  all_goals
    clear kB_0
    have BB := Lib.hid (BB.out.stays qq)
    have BH := Lib.hid (BH.out.stays qq)
    have V := Lib.hid (V.out.stays qq)
    have RQ := Lib.hid (R2.out.trans (qq.mono hz_x1))
    have hz_wq := RQ.out.size
    clear hq hb qq
    clear R2 hz_x1 s64
    have kB_0 : wq.cell? ⟨b_, 0, none⟩ = some (.slice A 80 c) := BB.out.cell 0
    have cH := BH.out.cell
    have zH := BH.out.frozen
    go_wp2
    clear zH cH
    clear kB_0
    generalize hwd : World.setCell _ ⟨h_, 6, none⟩ _ = wd
    have hwd2 : (stores wq h_ [.int .i64 0, .int .i64 0, .int .i64 0, .int .i64 0, .int .i64 0, .int .i64 0, .int .i64 0] 0) = wd := hwd
    have D1 : Blk wd h_ 41 #[.int .i64 0, .int .i64 0, .int .i64 0, .int .i64 0, .int .i64 0, .int .i64 0, .int .i64 0] := by rw [← hwd2]; exact (BH.out.filled _ rfl)
    have RD : Below w.heap.size w wd := by rw [← hwd2]; exact (Below.stores (by omega) _ _ _ RQ.out)
    clear hwd hwd2
    have d1_0 : wd.cell? ⟨h_, 0, none⟩ = some (.int .i64 0) := D1.cell 0
    have d1_1 : wd.cell? ⟨h_, 1, none⟩ = some (.int .i64 0) := D1.cell 1
    have d1_2 : wd.cell? ⟨h_, 2, none⟩ = some (.int .i64 0) := D1.cell 2
    have d1_3 : wd.cell? ⟨h_, 3, none⟩ = some (.int .i64 0) := D1.cell 3
    have d1_4 : wd.cell? ⟨h_, 4, none⟩ = some (.int .i64 0) := D1.cell 4
    have d1_5 : wd.cell? ⟨h_, 5, none⟩ = some (.int .i64 0) := D1.cell 5
    have d1_6 : wd.cell? ⟨h_, 6, none⟩ = some (.int .i64 0) := D1.cell 6
    try go_wp2_with fail
    refine bodyPost_ret (v := .tuple #[.agg #[.int .i64 0, .int .i64 0, .int .i64 0, .int .i64 0, .int .i64 0, .int .i64 0, .int .i64 0], .int .i64 6]) (by simp [results, Try.results23, go_sem, *]) rfl ⟨rfl, RD⟩
set_option maxRecDepth 100000 in
set_option maxHeartbeats 4000000 in
theorem load_bad (A : Option Addr) (n c : Nat) (l : List UInt8) (w : World) (hv : Bytes w A n c l) (hn : n = 80) (hf : l.take 8 = magicL) (ha : shortL (l.take 64) = l.drop 64) (h0 : ¬ svE (loadN l 1) (loadN l 2) (loadN l 3) (loadN l 4) (loadN l 5) (loadN l 6) (loadN l 7) = 0) :
    Calls Try.prog 23 #[.slice A n c] w fun e w' => e = .returned (.tuple #[.agg #[.int .i64 0, .int .i64 0, .int .i64 0, .int .i64 0, .int .i64 0, .int .i64 0, .int .i64 0], .int .i64 (svE (loadN l 1) (loadN l 2) (loadN l 3) (loadN l 4) (loadN l 5) (loadN l 6) (loadN l 7))]) ∧ Below w.heap.size w w' := by
  have q1 := hv.le
  have q2 := hv.cap
  have HV := Lib.hid hv
  clear hv
  subst hn
  obtain ⟨sq, hsq⟩ : ∃ sq, strOf (l.take 8) = sq := ⟨_, rfl⟩
  have SQ : sq.toList = l.take 8 := by rw [← hsq, strOf_toList]
  have hform : sq = (⟨#[115, 101, 99, 116, 105, 109, 101, 49]⟩ : ByteArray) := by
    have h1 : strOf (l.take 8) = strOf magicL := by rw [hf]
    rw [← hsq, h1]; rfl
  clear hf
  subst hform
  clear SQ
  have HSQ := Lib.hid hsq
  clear hsq
  have da : decide (shortL (l.take 64) = l.drop 64) = true := decide_eq_true ha
  clear ha
  obtain ⟨u1, hu1⟩ : ∃ u, loadN l 1 = u := ⟨_, rfl⟩
  have HU1 := Lib.hid hu1
  obtain ⟨u2, hu2⟩ : ∃ u, loadN l 2 = u := ⟨_, rfl⟩
  have HU2 := Lib.hid hu2
  obtain ⟨u3, hu3⟩ : ∃ u, loadN l 3 = u := ⟨_, rfl⟩
  have HU3 := Lib.hid hu3
  obtain ⟨u4, hu4⟩ : ∃ u, loadN l 4 = u := ⟨_, rfl⟩
  have HU4 := Lib.hid hu4
  obtain ⟨u5, hu5⟩ : ∃ u, loadN l 5 = u := ⟨_, rfl⟩
  have HU5 := Lib.hid hu5
  obtain ⟨u6, hu6⟩ : ∃ u, loadN l 6 = u := ⟨_, rfl⟩
  have HU6 := Lib.hid hu6
  obtain ⟨u7, hu7⟩ : ∃ u, loadN l 7 = u := ⟨_, rfl⟩
  have HU7 := Lib.hid hu7
  rw [hu1, hu2, hu3, hu4, hu5, hu6, hu7] at h0 ⊢
  clear hu1 hu2 hu3 hu4 hu5 hu6 hu7
  obtain ⟨er, her⟩ : ∃ er, svE u1 u2 u3 u4 u5 u6 u7 = er := ⟨_, rfl⟩
  rw [her] at h0 ⊢
  have HE := Lib.hid her
  have hne : (er != 0) = true := by simpa using h0
  clear her h0
  go_enter Try.func23, Try.ntmps23
  go_upto_region 1 with fail
  obtain ⟨x1, b_, h_, ex1, eb_, eh_⟩ : ∃ x1 b_ h_, x1 = (w.alloc (.cells #[.slice A 80 c] 28)).alloc (.cells #[.int .i64 0, .int .i64 0, .int .i64 0, .int .i64 0, .int .i64 0, .int .i64 0, .int .i64 0] 41) ∧ b_ = w.heap.size ∧ h_ = w.heap.size + 1 := ⟨_, _, _, rfl, rfl, rfl⟩
  rw [← ex1, ← eh_, ← eb_]
  have hbx : Below w.heap.size w x1 := by rw [ex1]; exact below_alloc2 _ _ _ 
  have o_B_H : b_ < h_ := by omega
  have g_B : w.heap.size ≤ b_ := by rw [eb_]; exact Nat.le_refl _
  have BB := Lib.hid (show Blk x1 b_ 28 #[.slice A 80 c] by rw [ex1, eb_]; exact blk_new2_0 _ _ _ _ _ )
  have BH := Lib.hid (show Blk x1 h_ 41 #[.int .i64 0, .int .i64 0, .int .i64 0, .int .i64 0, .int .i64 0, .int .i64 0, .int .i64 0] by rw [ex1, eh_]; exact blk_new2_1 _ _ _ _ _ )
  have R2 := Lib.hid hbx
  have hz_x1 := R2.out.size
  clear hbx ex1 eb_ eh_
  have kB_0 : x1.cell? ⟨b_, 0, none⟩ = some (.slice A 80 c) := BB.out.cell 0
  have V := Lib.hid (HV.out.stays R2.out)
  have cv : (convert 28 9 (.slice A 8 c)).run Try.prog x1 = .ok (.string ⟨#[115, 101, 99, 116, 105, 109, 101, 49]⟩) x1 := by
    have := conv_str (P := Try.prog) (V.out.cutTo 8 (by decide)) 28 9 5 Try.underlying28 Try.underlying5 Try.underlying9
    rw [HSQ.out] at this
    exact this
  go_upto_region 7 with fail
  clear cv
  clear kB_0
  have c64 : (64 : Int) ≤ (c : Int) := by omega
  have c64b : 64 ≤ c := by omega
  have c64c : ¬ c < 64 := by omega
  have s64 := run_cutFrom und_bytes size_byte (A := A) (n := 80) (c := c) 64 64 16 (c - 64) rfl (by decide) rfl rfl
  have H64 := Lib.hid (V.out.cutTo 64 (by decide))
  have T64 := Lib.hid (V.out.cutFrom 64 (by decide) (d := 16) (k := c - 64) rfl rfl)
  have kB_0 : x1.cell? ⟨b_, 0, none⟩ = some (.slice A 80 c) := BB.out.cell 0
  go_region_held3 (fun w' => w'.cell? ⟨b_, 0, none⟩ = some (.slice A 80 c)) (go_keep)
    (first
      | (go_at_call 57; (with_reducible refine (short_any (l.take 64) _ _ _ _ (H64.out.stays (by go_grown))).mono ?_); rintro e wq ⟨Aq, rfl, hq, hb⟩; have qq : Below x1.heap.size x1 wq := below_via (by go_grown) hb (by first | (simp; done) | (simp; omega)); have z0 : wq.cell? ⟨b_, 0, none⟩ = some (.slice A 80 c) := (BB.out.stays qq).cell 0)
      | (go_at_call 60; (with_reducible refine (bytesEqual_any _ _ _ _ _ _ _ _ _ hq (T64.out.stays qq)).mono ?_); rintro e w9 ⟨rfl, rfl⟩; rw [da]))
  all_goals
    clear kB_0
    have BB := Lib.hid (BB.out.stays qq)
    have BH := Lib.hid (BH.out.stays qq)
    have V := Lib.hid (V.out.stays qq)
    have RQ := Lib.hid (R2.out.trans (qq.mono hz_x1))
    have hz_wq := RQ.out.size
    clear hq hb qq
    clear R2 hz_x1 s64
    go_wp2_with fail
    refine (at_any _ c l _ 1 BB.out V.out (by decide)).mono ?_
    rintro e q_ ⟨rfl, rfl⟩
    rw [HU1.out]
    go_wp2_with fail
    refine (at_any _ c l _ 2 BB.out V.out (by decide)).mono ?_
    rintro e q_ ⟨rfl, rfl⟩
    rw [HU2.out]
    go_wp2_with fail
    refine (at_any _ c l _ 3 BB.out V.out (by decide)).mono ?_
    rintro e q_ ⟨rfl, rfl⟩
    rw [HU3.out]
    go_wp2_with fail
    refine (at_any _ c l _ 4 BB.out V.out (by decide)).mono ?_
    rintro e q_ ⟨rfl, rfl⟩
    rw [HU4.out]
    go_wp2_with fail
    refine (at_any _ c l _ 5 BB.out V.out (by decide)).mono ?_
    rintro e q_ ⟨rfl, rfl⟩
    rw [HU5.out]
    go_wp2_with fail
    refine (at_any _ c l _ 6 BB.out V.out (by decide)).mono ?_
    rintro e q_ ⟨rfl, rfl⟩
    rw [HU6.out]
    go_wp2_with fail
    refine (at_any _ c l _ 7 BB.out V.out (by decide)).mono ?_
    rintro e q_ ⟨rfl, rfl⟩
    rw [HU7.out]
    go_upto_region 11 with fail
    obtain ⟨x3, s_, ex3, es_⟩ : ∃ x3 s_, x3 = wq.alloc (.cells #[.int .i64 u1, .int .i64 u2, .int .i64 u3, .int .i64 u4, .int .i64 u5, .int .i64 u6, .int .i64 u7] 41) ∧ s_ = wq.heap.size := ⟨_, _, rfl, rfl⟩
    rw [← ex3, ← es_]
    have hbx : Below wq.heap.size wq x3 := by rw [ex3]; exact below_alloc1 _ _ 
    have o_B_S : b_ < s_ := by rw [es_]; exact BB.out.lt
    have o_H_S : h_ < s_ := by rw [es_]; exact BH.out.lt
    have g_S : w.heap.size ≤ s_ := by rw [es_]; exact hz_wq
    have BB := Lib.hid (BB.out.stays hbx)
    have BH := Lib.hid (BH.out.stays hbx)
    have V := Lib.hid (V.out.stays hbx)
    have BS := Lib.hid (show Blk x3 s_ 41 #[.int .i64 u1, .int .i64 u2, .int .i64 u3, .int .i64 u4, .int .i64 u5, .int .i64 u6, .int .i64 u7] by rw [ex3, es_]; exact blk_new1_0 _ _ _ )
    have R4 := Lib.hid (RQ.out.trans (hbx.mono hz_wq))
    have hz_x3 := R4.out.size
    clear hbx ex3 es_ RQ hz_wq
    have kS_0 : x3.cell? ⟨s_, 0, none⟩ = some (.int .i64 u1) := BS.out.cell 0
    have kS_1 : x3.cell? ⟨s_, 1, none⟩ = some (.int .i64 u2) := BS.out.cell 1
    have kS_2 : x3.cell? ⟨s_, 2, none⟩ = some (.int .i64 u3) := BS.out.cell 2
    have kS_3 : x3.cell? ⟨s_, 3, none⟩ = some (.int .i64 u4) := BS.out.cell 3
    have kS_4 : x3.cell? ⟨s_, 4, none⟩ = some (.int .i64 u5) := BS.out.cell 4
    have kS_5 : x3.cell? ⟨s_, 5, none⟩ = some (.int .i64 u6) := BS.out.cell 5
    have kS_6 : x3.cell? ⟨s_, 6, none⟩ = some (.int .i64 u7) := BS.out.cell 6
    go_wp2_with fail
    refine (savedV u1 u2 u3 u4 u5 u6 u7 _).mono ?_
    rintro e y5 ⟨rfl, hb⟩
    clear kS_0 kS_1 kS_2 kS_3 kS_4 kS_5 kS_6
    have hbx : Below x3.heap.size x3 y5 := below_via (by go_grown) hb (by first | (simp; done) | (simp; omega))
    have BB := Lib.hid (BB.out.stays hbx)
    have BH := Lib.hid (BH.out.stays hbx)
    have BS := Lib.hid (BS.out.stays hbx)
    have V := Lib.hid (V.out.stays hbx)
    have R6 := Lib.hid (R4.out.trans (hbx.mono hz_x3))
    have hz_y5 := R6.out.size
    clear hb hbx  R4 hz_x3
    rw [HE.out]
    have cH := BH.out.cell
    have zH := BH.out.frozen
    go_wp2
    clear zH cH
    generalize hwd : World.setCell _ ⟨h_, 6, none⟩ _ = wd
    have hwd2 : (stores y5 h_ [.int .i64 0, .int .i64 0, .int .i64 0, .int .i64 0, .int .i64 0, .int .i64 0, .int .i64 0] 0) = wd := hwd
    have D1 : Blk wd h_ 41 #[.int .i64 0, .int .i64 0, .int .i64 0, .int .i64 0, .int .i64 0, .int .i64 0, .int .i64 0] := by rw [← hwd2]; exact (BH.out.filled _ rfl)
    have RD : Below w.heap.size w wd := by rw [← hwd2]; exact (Below.stores (by omega) _ _ _ R6.out)
    clear hwd hwd2
    have d1_0 : wd.cell? ⟨h_, 0, none⟩ = some (.int .i64 0) := D1.cell 0
    have d1_1 : wd.cell? ⟨h_, 1, none⟩ = some (.int .i64 0) := D1.cell 1
    have d1_2 : wd.cell? ⟨h_, 2, none⟩ = some (.int .i64 0) := D1.cell 2
    have d1_3 : wd.cell? ⟨h_, 3, none⟩ = some (.int .i64 0) := D1.cell 3
    have d1_4 : wd.cell? ⟨h_, 4, none⟩ = some (.int .i64 0) := D1.cell 4
    have d1_5 : wd.cell? ⟨h_, 5, none⟩ = some (.int .i64 0) := D1.cell 5
    have d1_6 : wd.cell? ⟨h_, 6, none⟩ = some (.int .i64 0) := D1.cell 6
    try go_wp2_with fail
    refine bodyPost_ret (v := .tuple #[.agg #[.int .i64 0, .int .i64 0, .int .i64 0, .int .i64 0, .int .i64 0, .int .i64 0, .int .i64 0], .int .i64 er]) (by simp [results, Try.results23, go_sem, *]) rfl ⟨rfl, RD⟩
set_option maxRecDepth 100000 in
set_option maxHeartbeats 4000000 in
theorem load_ok (A : Option Addr) (n c : Nat) (l : List UInt8) (w : World) (hv : Bytes w A n c l) (hn : n = 80) (hf : l.take 8 = magicL) (ha : shortL (l.take 64) = l.drop 64) (h0 : svE (loadN l 1) (loadN l 2) (loadN l 3) (loadN l 4) (loadN l 5) (loadN l 6) (loadN l 7) = 0) :
    Calls Try.prog 23 #[.slice A n c] w fun e w' => e = .returned (.tuple #[.agg #[.int .i64 (loadN l 1), .int .i64 (loadN l 2), .int .i64 (loadN l 3), .int .i64 (loadN l 4), .int .i64 (loadN l 5), .int .i64 (loadN l 6), .int .i64 (loadN l 7)], .int .i64 0]) ∧ Below w.heap.size w w' := by
  have q1 := hv.le
  have q2 := hv.cap
  have HV := Lib.hid hv
  clear hv
  subst hn
  obtain ⟨sq, hsq⟩ : ∃ sq, strOf (l.take 8) = sq := ⟨_, rfl⟩
  have SQ : sq.toList = l.take 8 := by rw [← hsq, strOf_toList]
  have hform : sq = (⟨#[115, 101, 99, 116, 105, 109, 101, 49]⟩ : ByteArray) := by
    have h1 : strOf (l.take 8) = strOf magicL := by rw [hf]
    rw [← hsq, h1]; rfl
  clear hf
  subst hform
  clear SQ
  have HSQ := Lib.hid hsq
  clear hsq
  have da : decide (shortL (l.take 64) = l.drop 64) = true := decide_eq_true ha
  clear ha
  obtain ⟨u1, hu1⟩ : ∃ u, loadN l 1 = u := ⟨_, rfl⟩
  have HU1 := Lib.hid hu1
  obtain ⟨u2, hu2⟩ : ∃ u, loadN l 2 = u := ⟨_, rfl⟩
  have HU2 := Lib.hid hu2
  obtain ⟨u3, hu3⟩ : ∃ u, loadN l 3 = u := ⟨_, rfl⟩
  have HU3 := Lib.hid hu3
  obtain ⟨u4, hu4⟩ : ∃ u, loadN l 4 = u := ⟨_, rfl⟩
  have HU4 := Lib.hid hu4
  obtain ⟨u5, hu5⟩ : ∃ u, loadN l 5 = u := ⟨_, rfl⟩
  have HU5 := Lib.hid hu5
  obtain ⟨u6, hu6⟩ : ∃ u, loadN l 6 = u := ⟨_, rfl⟩
  have HU6 := Lib.hid hu6
  obtain ⟨u7, hu7⟩ : ∃ u, loadN l 7 = u := ⟨_, rfl⟩
  have HU7 := Lib.hid hu7
  rw [hu1, hu2, hu3, hu4, hu5, hu6, hu7] at h0 ⊢
  clear hu1 hu2 hu3 hu4 hu5 hu6 hu7
  have HE := Lib.hid h0
  clear h0
  go_enter Try.func23, Try.ntmps23
  go_upto_region 1 with fail
  obtain ⟨x1, b_, h_, ex1, eb_, eh_⟩ : ∃ x1 b_ h_, x1 = (w.alloc (.cells #[.slice A 80 c] 28)).alloc (.cells #[.int .i64 0, .int .i64 0, .int .i64 0, .int .i64 0, .int .i64 0, .int .i64 0, .int .i64 0] 41) ∧ b_ = w.heap.size ∧ h_ = w.heap.size + 1 := ⟨_, _, _, rfl, rfl, rfl⟩
  rw [← ex1, ← eh_, ← eb_]
  have hbx : Below w.heap.size w x1 := by rw [ex1]; exact below_alloc2 _ _ _ 
  have o_B_H : b_ < h_ := by omega
  have g_B : w.heap.size ≤ b_ := by rw [eb_]; exact Nat.le_refl _
  have BB := Lib.hid (show Blk x1 b_ 28 #[.slice A 80 c] by rw [ex1, eb_]; exact blk_new2_0 _ _ _ _ _ )
  have BH := Lib.hid (show Blk x1 h_ 41 #[.int .i64 0, .int .i64 0, .int .i64 0, .int .i64 0, .int .i64 0, .int .i64 0, .int .i64 0] by rw [ex1, eh_]; exact blk_new2_1 _ _ _ _ _ )
  have R2 := Lib.hid hbx
  have hz_x1 := R2.out.size
  clear hbx ex1 eb_ eh_
  have kB_0 : x1.cell? ⟨b_, 0, none⟩ = some (.slice A 80 c) := BB.out.cell 0
  have V := Lib.hid (HV.out.stays R2.out)
  have cv : (convert 28 9 (.slice A 8 c)).run Try.prog x1 = .ok (.string ⟨#[115, 101, 99, 116, 105, 109, 101, 49]⟩) x1 := by
    have := conv_str (P := Try.prog) (V.out.cutTo 8 (by decide)) 28 9 5 Try.underlying28 Try.underlying5 Try.underlying9
    rw [HSQ.out] at this
    exact this
  go_upto_region 7 with fail
  clear cv
  clear kB_0
  have c64 : (64 : Int) ≤ (c : Int) := by omega
  have c64b : 64 ≤ c := by omega
  have c64c : ¬ c < 64 := by omega
  have s64 := run_cutFrom und_bytes size_byte (A := A) (n := 80) (c := c) 64 64 16 (c - 64) rfl (by decide) rfl rfl
  have H64 := Lib.hid (V.out.cutTo 64 (by decide))
  have T64 := Lib.hid (V.out.cutFrom 64 (by decide) (d := 16) (k := c - 64) rfl rfl)
  have kB_0 : x1.cell? ⟨b_, 0, none⟩ = some (.slice A 80 c) := BB.out.cell 0
  go_region_held3 (fun w' => w'.cell? ⟨b_, 0, none⟩ = some (.slice A 80 c)) (go_keep)
    (first
      | (go_at_call 57; (with_reducible refine (short_any (l.take 64) _ _ _ _ (H64.out.stays (by go_grown))).mono ?_); rintro e wq ⟨Aq, rfl, hq, hb⟩; have qq : Below x1.heap.size x1 wq := below_via (by go_grown) hb (by first | (simp; done) | (simp; omega)); have z0 : wq.cell? ⟨b_, 0, none⟩ = some (.slice A 80 c) := (BB.out.stays qq).cell 0)
      | (go_at_call 60; (with_reducible refine (bytesEqual_any _ _ _ _ _ _ _ _ _ hq (T64.out.stays qq)).mono ?_); rintro e w9 ⟨rfl, rfl⟩; rw [da]))
  all_goals
    clear kB_0
    have BB := Lib.hid (BB.out.stays qq)
    have BH := Lib.hid (BH.out.stays qq)
    have V := Lib.hid (V.out.stays qq)
    have RQ := Lib.hid (R2.out.trans (qq.mono hz_x1))
    have hz_wq := RQ.out.size
    clear hq hb qq
    clear R2 hz_x1 s64
    go_wp2_with fail
    refine (at_any _ c l _ 1 BB.out V.out (by decide)).mono ?_
    rintro e q_ ⟨rfl, rfl⟩
    rw [HU1.out]
    go_wp2_with fail
    refine (at_any _ c l _ 2 BB.out V.out (by decide)).mono ?_
    rintro e q_ ⟨rfl, rfl⟩
    rw [HU2.out]
    go_wp2_with fail
    refine (at_any _ c l _ 3 BB.out V.out (by decide)).mono ?_
    rintro e q_ ⟨rfl, rfl⟩
    rw [HU3.out]
    go_wp2_with fail
    refine (at_any _ c l _ 4 BB.out V.out (by decide)).mono ?_
    rintro e q_ ⟨rfl, rfl⟩
    rw [HU4.out]
    go_wp2_with fail
    refine (at_any _ c l _ 5 BB.out V.out (by decide)).mono ?_
    rintro e q_ ⟨rfl, rfl⟩
    rw [HU5.out]
    go_wp2_with fail
    refine (at_any _ c l _ 6 BB.out V.out (by decide)).mono ?_
    rintro e q_ ⟨rfl, rfl⟩
    rw [HU6.out]
    go_wp2_with fail
    refine (at_any _ c l _ 7 BB.out V.out (by decide)).mono ?_
    rintro e q_ ⟨rfl, rfl⟩
    rw [HU7.out]
    go_upto_region 11 with fail
    obtain ⟨x3, s_, ex3, es_⟩ : ∃ x3 s_, x3 = wq.alloc (.cells #[.int .i64 u1, .int .i64 u2, .int .i64 u3, .int .i64 u4, .int .i64 u5, .int .i64 u6, .int .i64 u7] 41) ∧ s_ = wq.heap.size := ⟨_, _, rfl, rfl⟩
    rw [← ex3, ← es_]
    have hbx : Below wq.heap.size wq x3 := by rw [ex3]; exact below_alloc1 _ _ 
    have o_B_S : b_ < s_ := by rw [es_]; exact BB.out.lt
    have o_H_S : h_ < s_ := by rw [es_]; exact BH.out.lt
    have g_S : w.heap.size ≤ s_ := by rw [es_]; exact hz_wq
    have BB := Lib.hid (BB.out.stays hbx)
    have BH := Lib.hid (BH.out.stays hbx)
    have V := Lib.hid (V.out.stays hbx)
    have BS := Lib.hid (show Blk x3 s_ 41 #[.int .i64 u1, .int .i64 u2, .int .i64 u3, .int .i64 u4, .int .i64 u5, .int .i64 u6, .int .i64 u7] by rw [ex3, es_]; exact blk_new1_0 _ _ _ )
    have R4 := Lib.hid (RQ.out.trans (hbx.mono hz_wq))
    have hz_x3 := R4.out.size
    clear hbx ex3 es_ RQ hz_wq
    have kS_0 : x3.cell? ⟨s_, 0, none⟩ = some (.int .i64 u1) := BS.out.cell 0
    have kS_1 : x3.cell? ⟨s_, 1, none⟩ = some (.int .i64 u2) := BS.out.cell 1
    have kS_2 : x3.cell? ⟨s_, 2, none⟩ = some (.int .i64 u3) := BS.out.cell 2
    have kS_3 : x3.cell? ⟨s_, 3, none⟩ = some (.int .i64 u4) := BS.out.cell 3
    have kS_4 : x3.cell? ⟨s_, 4, none⟩ = some (.int .i64 u5) := BS.out.cell 4
    have kS_5 : x3.cell? ⟨s_, 5, none⟩ = some (.int .i64 u6) := BS.out.cell 5
    have kS_6 : x3.cell? ⟨s_, 6, none⟩ = some (.int .i64 u7) := BS.out.cell 6
    go_wp2_with fail
    refine (savedV u1 u2 u3 u4 u5 u6 u7 _).mono ?_
    rintro e y5 ⟨rfl, hb⟩
    clear kS_0 kS_1 kS_2 kS_3 kS_4 kS_5 kS_6
    have hbx : Below x3.heap.size x3 y5 := below_via (by go_grown) hb (by first | (simp; done) | (simp; omega))
    have BB := Lib.hid (BB.out.stays hbx)
    have BH := Lib.hid (BH.out.stays hbx)
    have BS := Lib.hid (BS.out.stays hbx)
    have V := Lib.hid (V.out.stays hbx)
    have R6 := Lib.hid (R4.out.trans (hbx.mono hz_x3))
    have hz_y5 := R6.out.size
    clear hb hbx  R4 hz_x3
    rw [HE.out]
    have kS_0 : y5.cell? ⟨s_, 0, none⟩ = some (.int .i64 u1) := BS.out.cell 0
    have kS_1 : y5.cell? ⟨s_, 1, none⟩ = some (.int .i64 u2) := BS.out.cell 1
    have kS_2 : y5.cell? ⟨s_, 2, none⟩ = some (.int .i64 u3) := BS.out.cell 2
    have kS_3 : y5.cell? ⟨s_, 3, none⟩ = some (.int .i64 u4) := BS.out.cell 3
    have kS_4 : y5.cell? ⟨s_, 4, none⟩ = some (.int .i64 u5) := BS.out.cell 4
    have kS_5 : y5.cell? ⟨s_, 5, none⟩ = some (.int .i64 u6) := BS.out.cell 5
    have kS_6 : y5.cell? ⟨s_, 6, none⟩ = some (.int .i64 u7) := BS.out.cell 6
    have cH := BH.out.cell
    have zH := BH.out.frozen
    have ns1 : ¬ s_ = h_ := by omega
    have ns2 : ¬ h_ = s_ := by omega
    go_wp2
    clear zH cH ns1 ns2
    clear kS_0 kS_1 kS_2 kS_3 kS_4 kS_5 kS_6
    generalize hwd : World.setCell _ ⟨h_, 6, none⟩ _ = wd
    have hwd2 : (stores y5 h_ [.int .i64 u1, .int .i64 u2, .int .i64 u3, .int .i64 u4, .int .i64 u5, .int .i64 u6, .int .i64 u7] 0) = wd := hwd
    have D1 : Blk wd h_ 41 #[.int .i64 u1, .int .i64 u2, .int .i64 u3, .int .i64 u4, .int .i64 u5, .int .i64 u6, .int .i64 u7] := by rw [← hwd2]; exact (BH.out.filled _ rfl)
    have RD : Below w.heap.size w wd := by rw [← hwd2]; exact (Below.stores (by omega) _ _ _ R6.out)
    clear hwd hwd2
    have d1_0 : wd.cell? ⟨h_, 0, none⟩ = some (.int .i64 u1) := D1.cell 0
    have d1_1 : wd.cell? ⟨h_, 1, none⟩ = some (.int .i64 u2) := D1.cell 1
    have d1_2 : wd.cell? ⟨h_, 2, none⟩ = some (.int .i64 u3) := D1.cell 2
    have d1_3 : wd.cell? ⟨h_, 3, none⟩ = some (.int .i64 u4) := D1.cell 3
    have d1_4 : wd.cell? ⟨h_, 4, none⟩ = some (.int .i64 u5) := D1.cell 4
    have d1_5 : wd.cell? ⟨h_, 5, none⟩ = some (.int .i64 u6) := D1.cell 5
    have d1_6 : wd.cell? ⟨h_, 6, none⟩ = some (.int .i64 u7) := D1.cell 6
    try go_wp2_with fail
    refine bodyPost_ret (v := .tuple #[.agg #[.int .i64 u1, .int .i64 u2, .int .i64 u3, .int .i64 u4, .int .i64 u5, .int .i64 u6, .int .i64 u7], .int .i64 0]) (by simp [results, Try.results23, go_sem, *]) rfl ⟨rfl, RD⟩
end Go.Proofs.Ytbjmojajhkhekaa
