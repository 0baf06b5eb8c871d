/- sectimecase.Random. -/
import Derived.Test.YtbjmojajhkhekaaRgI
import Derived.Test.YtbjmojajhkhekaaRefS2
import Derived.Lib.SlBytesConst
namespace Go.Proofs.Ytbjmojajhkhekaa
open Go Go.RowKit

theorem bytes_litm28 {w : World} {E n : Nat} {fr : Nat × Nat} (l : List UInt8) (vs : Array Value) (hv : vs = (l.map byteV).toArray) (hn : l.length = n) (hm : n ≤ maxLen) : Bytes (w.alloc (.cells vs E fr)) (some ⟨w.heap.size, 0, none⟩) n n l := by
  subst hv hn
  refine ⟨by simp, Nat.le_refl _, hm, fun i u hu => ⟨_, _, rfl, ?_⟩⟩
  rw [World.cell?_alloc_mark, Nat.zero_add]
  simpa using hu
def rndL (V : Nat) : List UInt8 := sumL ([[99, 97, 115, 101], putL V 8] : List (List UInt8)).flatten
set_option maxRecDepth 100000 in
set_option maxHeartbeats 4000000 in
theorem random_any (v : Int) (n : Nat) (hn : n ≤ 32) (w : World) :
    Calls Try.prog 40 #[.int .i64 v, .int .i64 n] w fun e w' => ∃ A c, e = .returned (.slice A n c) ∧ Bytes w' A n c ((rndL (IntKind.u64.wrap v).toNat).take n) ∧ Fresh w.heap.size A ∧ Below w.heap.size w w' := by
  have hv0 : 0 ≤ IntKind.u64.wrap v := by simp [IntKind.wrap, IntKind.bits, IntKind.signed]; omega
  obtain ⟨V, hV⟩ : ∃ V : Nat, IntKind.u64.wrap v = (V : Int) := ⟨(IntKind.u64.wrap v).toNat, by omega⟩
  clear hv0
  have hV2 : v % 18446744073709551616 = (V : Int) := by rw [← hV]; simp [IntKind.wrap, IntKind.bits, IntKind.signed]
  have HV := Lib.hid hV
  rw [hV, Int.toNat_natCast]
  have hcap : ∀ c : Nat, 32 ≤ c → (n : Int) ≤ (c : Int) := fun c h => by omega
  have HCC := Lib.hid hcap
  clear hcap
  have hcv := Lib.run_convert_bytes_const (P := Try.prog) w 28 5 #[.int .u8 99, .int .u8 97, .int .u8 115, .int .u8 101] 4 4 Try.underlying28 Try.underlying5
  go_enter Try.func40, Try.ntmps40
  go_wp2_with fail
  clear hV hV2 hcv
  obtain ⟨x0, hx0⟩ : ∃ x0, x0 = w.alloc (.cells #[.int .u8 99, .int .u8 97, .int .u8 115, .int .u8 101] 5 (4, 4 + 1)) := ⟨_, rfl⟩
  try simp only [List.size_toArray, List.length_cons, List.length_nil, Nat.zero_add, Nat.reduceAdd]
  rw [← hx0]
  have R0 : Below w.heap.size w x0 := by rw [hx0]; exact below_alloc1 _ _
  have VC : Hid (Bytes x0 (some ⟨w.heap.size, 0, none⟩) 4 4 [99, 97, 115, 101]) := by rw [Hid, hx0]; exact bytes_litm28 [99, 97, 115, 101] _ rfl (n := 4) rfl (by decide)
  have RR0 := Lib.hid R0
  have hz_x0 := R0.size
  clear R0 hx0
  refine (refPut_reads V 8 (by decide) _).mono ?_
  rintro e y1 ⟨Aq, cq, rfl, hq, hb⟩
  have hbx : Below x0.heap.size x0 y1 := below_via (by go_grown) hb (by first | (simp; done) | (simp; omega))
  have VC := Lib.hid (VC.out.stays hbx)
  have VQ := Lib.hid hq
  have R2 := Lib.hid (RR0.out.trans (hbx.mono hz_x0))
  have hz_y1 := R2.out.size
  clear hb hbx hq RR0 hz_x0
  go_wp2_with fail
  refine (refJoin_any _ _ _ [_, _] _ (lists_made2 VC.out VQ.out) 12 (by simp [putL_length]) (by omega)).mono ?_
  rintro e y3 ⟨Aj, cj, rfl, hv, hb⟩
  have hbx : Below y1.heap.size y1 y3 := below_via (by go_grown) hb (by first | (simp; done) | (simp; omega))
  have VC := Lib.hid (VC.out.stays hbx)
  have VQ := Lib.hid (VQ.out.stays hbx)
  have VJ := Lib.hid (own_rd hv)
  have R4 := Lib.hid (R2.out.trans (hbx.mono hz_y1))
  have hz_y3 := R4.out.size
  clear hb hbx  R2 hz_y1
  clear hv
  have hzp := hz_y3
  go_wp2_with fail
  refine (refSum_any _ _ _ _ _ VJ.out).mono ?_
  rintro e y5 ⟨As, cs, rfl, hv, hb⟩
  have hbx : Below y3.heap.size y3 y5 := below_via (by go_grown) hb (by first | (simp; done) | (simp; omega))
  have VC := Lib.hid (VC.out.stays hbx)
  have VQ := Lib.hid (VQ.out.stays hbx)
  have VJ := Lib.hid (VJ.out.stays hbx)
  have VS := Lib.hid (own_rd hv)
  have R6 := Lib.hid (R4.out.trans (hbx.mono hz_y3))
  have hz_y5 := R6.out.size
  clear hb hbx  R4 hz_y3
  have FS : Fresh w.heap.size As := (Fresh.own hv).more hzp
  clear hv
  have q1 := VS.out.2.1
  have q2 := HCC.out cs q1
  have q3 : cs ≤ 9223372036854775807 := by have := VS.out.2.2.1; unfold maxLen at this; exact this
  go_wp2
  go_ret
  exact ⟨As, cs, rfl, Bytes.cutTo (l := rndL V) VS.out n hn, FS, R6.out⟩
end Go.Proofs.Ytbjmojajhkhekaa
