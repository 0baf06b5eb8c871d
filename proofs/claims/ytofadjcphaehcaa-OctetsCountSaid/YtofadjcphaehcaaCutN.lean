/- sectimeref01.Cut, another cut. -/
import Derived.Test.YtofadjcphaehcaaCut
namespace Go.Proofs.Ytofadjcphaehcaa
open Go.RowKit

set_option maxRecDepth 100000 in
set_option maxHeartbeats 100000000 in
theorem refCut_1 (l : List UInt8) (A : Option Addr) (n c k : Nat) (w : World) (h : Bytes w A n c l) (hk : k ≤ n) (hn : n ≤ 100000) (hck : ¬ c = k) :
    Calls Try.prog 42 #[.slice A n c, .int .i64 k] w fun e w' => ∃ A1 c1 A2 c2, e = .returned (.tuple #[.slice A1 k c1, .slice A2 (n - k) c2, .bool true]) ∧ Bytes w' A1 k c1 (l.take k) ∧ Bytes w' A2 (n - k) c2 (l.drop k) ∧ Below w.heap.size w w' := by
  have q1 := h.le
  have q2 := h.cap
  have hki : ¬ (k : Int) > (n : Int) := by omega
  have HL := Lib.hid h.len
  have HH := Lib.hid (h.cut0 k hk)
  have ht := h.cut k n hk (Nat.le_refl _)
  rw [List.take_of_length_le (by rw [List.length_drop, HL.out]; exact Nat.le_refl _)] at ht
  have R : Hid (Below w.heap.size w w) := Below.refl _ _
  have hsR := R.out.size
  clear h
  rw [if_neg hck] at ht
  have HT := Lib.hid ht
  clear ht
  have kX : Below w.heap.size w (w.alloc (.cells #[.slice A k c] 23)) := (Below.refl _ _).alloc (Nat.le_refl _) _
  have kY : Below w.heap.size w (w.alloc (.cells #[.slice (Option.map (fun x => x.add k) A) (n - k) (c - k)] 23)) := (Below.refl _ _).alloc (Nat.le_refl _) _
  have kXY : Below (w.alloc (.cells #[.slice A k c] 23)).heap.size (w.alloc (.cells #[.slice A k c] 23)) ((w.alloc (.cells #[.slice A k c] 23)).alloc (.cells #[.slice (Option.map (fun x => x.add k) A) (n - k) (c - k)] 23)) := (Below.refl _ _).alloc (Nat.le_refl _) _
  have kYX : Below (w.alloc (.cells #[.slice (Option.map (fun x => x.add k) A) (n - k) (c - k)] 23)).heap.size (w.alloc (.cells #[.slice (Option.map (fun x => x.add k) A) (n - k) (c - k)] 23)) ((w.alloc (.cells #[.slice (Option.map (fun x => x.add k) A) (n - k) (c - k)] 23)).alloc (.cells #[.slice A k c] 23)) := (Below.refl _ _).alloc (Nat.le_refl _) _
  have l1 := lists_made1 (w := w) (E := 23) HH.out
  have l2 := lists_made1 (w := w) (E := 23) HT.out
  have l3 := lists_made1 (w := w.alloc (.cells #[.slice A k c] 23)) (E := 23) (HT.out.stays kX)
  have l4 := lists_made1 (w := w.alloc (.cells #[.slice (Option.map (fun x => x.add k) A) (n - k) (c - k)] 23)) (E := 23) (HH.out.stays kY)
  rw [show (w.alloc (.cells #[.slice A k c] 23)).heap.size = w.heap.size + 1 by simp] at l3
  rw [show (w.alloc (.cells #[.slice (Option.map (fun x => x.add k) A) (n - k) (c - k)] 23)).heap.size = w.heap.size + 1 by simp] at l4
  have HL1 := Lib.hid (l1.stays ((Below.refl _ _).drew))
  have HL2 := Lib.hid ((l1.stays kXY).stays ((Below.refl _ _).drew))
  have TL2 := Lib.hid (l3.stays ((Below.refl _ _).drew))
  have HL3 := Lib.hid (l4.stays ((Below.refl _ _).drew))
  have TL3 := Lib.hid ((l2.stays kYX).stays ((Below.refl _ _).drew))
  clear l1 l2 l3 l4 kX kY kXY kYX
  go_enter Try.func42, Try.ntmps42
  go_upto_region 3 with fail
  go_region_with (first
    | (go_at_call 35; with_reducible refine (refJoin_any _ _ _ [l.take k] _ HL1.out k (by rw [List.flatten_cons, List.flatten_nil, List.append_nil]; exact HH.out.len) (by omega)).mono ?_; rintro e wn ⟨A1, c1, rfl, hv, hb⟩; have V1 := Lib.hid (rd_join1 hv); have HT := Lib.hid (HT.out.stays (below_via (by go_grown) hb (by first | (simp; done) | (simp; omega)))); have R := Lib.hid (R.out.trans ((below_via (by go_grown) hb (by first | (simp; done) | (simp; omega))).mono hsR)); have hsR := R.out.size; clear hv hb)
    | (go_at_call 35; with_reducible refine (refJoin_any _ _ _ [l.take k] _ HL2.out k (by rw [List.flatten_cons, List.flatten_nil, List.append_nil]; exact HH.out.len) (by omega)).mono ?_; rintro e wn ⟨A1, c1, rfl, hv, hb⟩; have V1 := Lib.hid (rd_join1 hv); have HT := Lib.hid (HT.out.stays (below_via (by go_grown) hb (by first | (simp; done) | (simp; omega)))); have TL := Lib.hid (TL2.out.stays hb); have R := Lib.hid (R.out.trans ((below_via (by go_grown) hb (by first | (simp; done) | (simp; omega))).mono hsR)); have hsR := R.out.size; clear hv hb)
    | (go_at_call 35; with_reducible refine (refJoin_any _ _ _ [l.take k] _ HL3.out k (by rw [List.flatten_cons, List.flatten_nil, List.append_nil]; exact HH.out.len) (by omega)).mono ?_; rintro e wn ⟨A1, c1, rfl, hv, hb⟩; have V1 := Lib.hid (rd_join1 hv); have HT := Lib.hid (HT.out.stays (below_via (by go_grown) hb (by first | (simp; done) | (simp; omega)))); have TL := Lib.hid (TL3.out.stays hb); have R := Lib.hid (R.out.trans ((below_via (by go_grown) hb (by first | (simp; done) | (simp; omega))).mono hsR)); have hsR := R.out.size; clear hv hb)
    | (go_at_call 35; with_reducible refine (refJoin_any _ _ _ [l.drop k] _ TL.out (n - k) (by rw [List.flatten_cons, List.flatten_nil, List.append_nil]; exact HT.out.len) (by omega)).mono ?_; rintro e wn ⟨A2, c2, rfl, hv, hb⟩; have V2 := Lib.hid (rd_join1 hv); have V1 := Lib.hid (V1.out.stays (below_via (by go_grown) hb (by first | (simp; done) | (simp; omega)))); have R := Lib.hid (R.out.trans ((below_via (by go_grown) hb (by first | (simp; done) | (simp; omega))).mono hsR)); have hsR := R.out.size; clear hv hb)
    | (go_at_call 35; with_reducible refine (refJoin_any _ _ _ [l.drop k] _ (lists_made1 (w := wn) (E := 23) HT.out) (n - k) (by rw [List.flatten_cons, List.flatten_nil, List.append_nil]; exact HT.out.len) (by omega)).mono ?_; rintro e wn ⟨A2, c2, rfl, hv, hb⟩; have V2 := Lib.hid (rd_join1 hv); have V1 := Lib.hid (V1.out.stays (below_via (by go_grown) hb (by first | (simp; done) | (simp; omega)))); have R := Lib.hid (R.out.trans ((below_via (by go_grown) hb (by first | (simp; done) | (simp; omega))).mono hsR)); have hsR := R.out.size; clear hv hb))
  all_goals
    go_wp2
    go_returns
    exact ⟨_, _, _, _, rfl, V1.out, V2.out, R.out⟩
end Go.Proofs.Ytofadjcphaehcaa
