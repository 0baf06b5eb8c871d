/- interleave: Ask and Take. -/
import Derived.Test.YtfkckokaclkjnaaPkCG
import Derived.Test.YtfkckokaclkjnaaKissAG
import Derived.Test.YtfkckokaclkjnaaBlk
import Derived.Test.YtfkckokaclkjnaaStores
import Derived.Deep.DeepCutAuto
namespace Go.Proofs.Ytfkckokaclkjnaa
open Go.RowKit

def ilV (o k : Bool) (tr : Nat) (asked sent got : Int) (re ma : Nat) : Value := .agg #[.bool o, .bool k, .int .u64 tr, .int .i64 asked, .int .i64 sent, .int .i64 got, .int .u64 re, .int .u64 ma]
def askHd (t og re : Nat) : Value := .agg #[.int .i64 0, .int .i64 4, .int .i64 3, .int .i64 0, .int .i64 6, .int .i64 0, .int .u32 0, .int .u32 0, .int .u32 0, .int .u64 0, .int .u64 og, .int .u64 re, .int .u64 t]

set_option maxRecDepth 100000 in
set_option maxHeartbeats 4000000 in
theorem ilAsk_fresh (o : Bool) (tr : Nat) (asked sent got : Int) (re ma t : Nat) (at_ : Int) (h1 : -1152921504606846976 ≤ at_) (h2 : at_ ≤ 1152921504606846976) (ht : ¬ t = 0) (w : World) :
    Calls Try.prog 6 #[.agg #[.bool o, .bool false, .int .u64 tr, .int .i64 asked, .int .i64 sent, .int .i64 got, .int .u64 re, .int .u64 ma], .int .u64 t, .int .i64 at_] w fun e w' =>
      e = .returned (.tuple #[.agg #[.bool true, .bool false, .int .u64 t, .int .i64 at_, .int .i64 sent, .int .i64 got, .int .u64 re, .int .u64 ma], .agg #[.int .i64 0, .int .i64 4, .int .i64 3, .int .i64 0, .int .i64 6, .int .i64 0, .int .u32 0, .int .u32 0, .int .u32 0, .int .u64 0, .int .u64 0, .int .u64 0, .int .u64 t], .int .i64 0]) ∧ Below w.heap.size w w' := by
  have ht' : ¬ (t : Int) = 0 := by omega
  have htd : ((t : Int) == 0) = false := by simpa using ht'
  go_enter Try.func6, Try.ntmps6
  go_upto_region 1 with fail
  obtain ⟨wa, a, b, c, hwa, ha, hb, hc⟩ : ∃ wa a b c, wa = ((w.alloc (.cells #[.bool o, .bool false, .int .u64 tr, .int .i64 asked, .int .i64 sent, .int .i64 got, .int .u64 re, .int .u64 ma] 27)).alloc (.cells #[.bool false, .bool false, .int .u64 0, .int .i64 0, .int .i64 0, .int .i64 0, .int .u64 0, .int .u64 0] 27)).alloc (.cells #[.int .i64 0, .int .i64 0, .int .i64 0, .int .i64 0, .int .i64 0, .int .i64 0, .int .u32 0, .int .u32 0, .int .u32 0, .int .u64 0, .int .u64 0, .int .u64 0, .int .u64 0] 35) ∧ a = w.heap.size ∧ b = w.heap.size + 1 ∧ c = w.heap.size + 1 + 1 := ⟨_, _, _, _, rfl, rfl, rfl, rfl⟩
  rw [← hwa, ← hc, ← hb, ← ha]
  have BA : Blk wa a 27 #[.bool o, .bool false, .int .u64 tr, .int .i64 asked, .int .i64 sent, .int .i64 got, .int .u64 re, .int .u64 ma] := by rw [hwa, ha]; exact ((Blk.new w _ _).stays ((Below.refl _ _).alloc (Nat.le_refl _) _)).stays ((Below.refl _ _).alloc (Nat.le_refl _) _)
  have BB : Blk wa b 27 #[.bool false, .bool false, .int .u64 0, .int .i64 0, .int .i64 0, .int .i64 0, .int .u64 0, .int .u64 0] := by rw [hwa, hb]; refine Blk.stays (w := (w.alloc (.cells #[.bool o, .bool false, .int .u64 tr, .int .i64 asked, .int .i64 sent, .int .i64 got, .int .u64 re, .int .u64 ma] 27)).alloc (.cells #[.bool false, .bool false, .int .u64 0, .int .i64 0, .int .i64 0, .int .i64 0, .int .u64 0, .int .u64 0] 27)) ?_ ((Below.refl _ _).alloc (Nat.le_refl _) _); simpa using Blk.new (w.alloc (.cells #[.bool o, .bool false, .int .u64 tr, .int .i64 asked, .int .i64 sent, .int .i64 got, .int .u64 re, .int .u64 ma] 27)) 27 #[.bool false, .bool false, .int .u64 0, .int .i64 0, .int .i64 0, .int .i64 0, .int .u64 0, .int .u64 0]
  have BC : Blk wa c 35 #[.int .i64 0, .int .i64 0, .int .i64 0, .int .i64 0, .int .i64 0, .int .i64 0, .int .u32 0, .int .u32 0, .int .u32 0, .int .u64 0, .int .u64 0, .int .u64 0, .int .u64 0] := by rw [hwa, hc]; simpa using Blk.new ((w.alloc (.cells #[.bool o, .bool false, .int .u64 tr, .int .i64 asked, .int .i64 sent, .int .i64 got, .int .u64 re, .int .u64 ma] 27)).alloc (.cells #[.bool false, .bool false, .int .u64 0, .int .i64 0, .int .i64 0, .int .i64 0, .int .u64 0, .int .u64 0] 27)) _ _
  have RA : Below w.heap.size w wa := by rw [hwa]; go_grown
  have hab : a < b := by omega
  have hbc : b < c := by omega
  have hwaa : w.heap.size ≤ a := by omega
  clear hwa ha hb hc
  go_wp2_with fail
  refine (ticksValid_yes _ h1 h2 _).mono ?_
  rintro e w1 ⟨rfl, rfl⟩
  have k1 : wa.cell? ⟨a, 1, none⟩ = some (.bool false) := BA.cell 1
  go_wp2_with fail
  refine (ask_any t _).mono ?_
  rintro e w2 ⟨rfl, hb2⟩
  have BA2 := BA.stays hb2
  have BB2 := BB.stays hb2
  have BC2 := BC.stays hb2
  have hz1 := RA.size
  have R2 := RA.trans (hb2.mono hz1)
  clear BA BB BC RA hz1 hb2 k1
  have hz2 := R2.size
  go_upto_region 6 with fail
  obtain ⟨wb, d, hwb, hd⟩ : ∃ wb d, wb = w2.alloc (.cells #[.int .i64 0, .int .i64 4, .int .i64 3, .int .i64 0, .int .i64 6, .int .i64 0, .int .u32 0, .int .u32 0, .int .u32 0, .int .u64 0, .int .u64 0, .int .u64 0, .int .u64 t] 35) ∧ d = w2.heap.size := ⟨_, _, rfl, rfl⟩
  rw [← hwb, ← hd]
  have BD : Blk wb d 35 #[.int .i64 0, .int .i64 4, .int .i64 3, .int .i64 0, .int .i64 6, .int .i64 0, .int .u32 0, .int .u32 0, .int .u32 0, .int .u64 0, .int .u64 0, .int .u64 0, .int .u64 t] := by rw [hwb, hd]; exact Blk.new _ _ _
  have BA := BA2.stays (w' := wb) (by rw [hwb]; go_grown)
  have BB := BB2.stays (w' := wb) (by rw [hwb]; go_grown)
  have BC := BC2.stays (w' := wb) (by rw [hwb]; go_grown)
  have RB : Below w.heap.size w wb := R2.trans (by rw [hwb]; exact (Below.refl _ _).alloc hz2 _)
  have hcd : c < d := by rw [hd]; exact BC2.lt
  clear hwb hd BA2 BB2 BC2 R2 hz2
  have k1 : wb.cell? ⟨a, 1, none⟩ = some (.bool false) := BA.cell 1
  have k0 : wb.cell? ⟨a, 0, none⟩ = some (.bool o) := BA.cell 0
  have k2 : wb.cell? ⟨a, 2, none⟩ = some (.int .u64 tr) := BA.cell 2
  have k3 : wb.cell? ⟨a, 3, none⟩ = some (.int .i64 asked) := BA.cell 3
  have f0 := BA.frozen 0
  have f2 := BA.frozen 2
  have f3 := BA.frozen 3
  go_upto_region 9 with fail
  obtain ⟨wc, hwc⟩ : ∃ wc, wc = ((wb.setCell ⟨a, 0, none⟩ (.bool true)).setCell ⟨a, 2, none⟩ (.int .u64 t)).setCell ⟨a, 3, none⟩ (.int .i64 at_) := ⟨_, rfl⟩
  rw [← hwc]
  have CA : Blk wc a 27 #[.bool true, .bool false, .int .u64 t, .int .i64 at_, .int .i64 sent, .int .i64 got, .int .u64 re, .int .u64 ma] := by rw [hwc]; exact ((BA.put 0 _).put 2 _).put 3 _
  have CB : Blk wc b 27 #[.bool false, .bool false, .int .u64 0, .int .i64 0, .int .i64 0, .int .i64 0, .int .u64 0, .int .u64 0] := by rw [hwc]; exact ((BB.far (p := ⟨a, 0, none⟩) (by simp; omega) _).far (p := ⟨a, 2, none⟩) (by simp; omega) _).far (p := ⟨a, 3, none⟩) (by simp; omega) _
  have CC : Blk wc c 35 #[.int .i64 0, .int .i64 0, .int .i64 0, .int .i64 0, .int .i64 0, .int .i64 0, .int .u32 0, .int .u32 0, .int .u32 0, .int .u64 0, .int .u64 0, .int .u64 0, .int .u64 0] := by rw [hwc]; exact ((BC.far (p := ⟨a, 0, none⟩) (by simp; omega) _).far (p := ⟨a, 2, none⟩) (by simp; omega) _).far (p := ⟨a, 3, none⟩) (by simp; omega) _
  have CD : Blk wc d 35 #[.int .i64 0, .int .i64 4, .int .i64 3, .int .i64 0, .int .i64 6, .int .i64 0, .int .u32 0, .int .u32 0, .int .u32 0, .int .u64 0, .int .u64 0, .int .u64 0, .int .u64 t] := by rw [hwc]; exact ((BD.far (p := ⟨a, 0, none⟩) (by simp; omega) _).far (p := ⟨a, 2, none⟩) (by simp; omega) _).far (p := ⟨a, 3, none⟩) (by simp; omega) _
  have RC : Below w.heap.size w wc := by rw [hwc]; exact ((RB.setCell (p := ⟨a, 0, none⟩) hwaa _).setCell (p := ⟨a, 2, none⟩) hwaa _).setCell (p := ⟨a, 3, none⟩) hwaa _
  clear hwc BA BB BC BD RB k0 k1 k2 k3 f0 f2 f3
  have ka := CA.cell
  have kd := CD.cell
  have kb := CB.cell
  have kc := CC.cell
  have fb := CB.frozen
  have fc := CC.frozen
  have hda : ¬ d = a := by omega
  have hdb : ¬ d = b := by omega
  have hdc : ¬ d = c := by omega
  have hba : ¬ b = a := by omega
  have hbd : ¬ b = d := by omega
  have hcb : ¬ c = b := by omega
  have hbc' : ¬ b = c := by omega
  go_region
  have hwb : w.heap.size ≤ b := by omega
  have hwc2 : w.heap.size ≤ c := by omega
  generalize hwd : World.drew (World.setCell _ ⟨c, 12, none⟩ _) = wd
  have hwd' : (stores (stores wc b [.bool true, .bool false, .int .u64 t, .int .i64 at_, .int .i64 sent, .int .i64 got, .int .u64 re, .int .u64 ma] 0) c [.int .i64 0, .int .i64 4, .int .i64 3, .int .i64 0, .int .i64 6, .int .i64 0, .int .u32 0, .int .u32 0, .int .u32 0, .int .u64 0, .int .u64 0, .int .u64 0, .int .u64 t] 0).drew = wd := hwd
  have DB : Blk wd b 27 #[.bool true, .bool false, .int .u64 t, .int .i64 at_, .int .i64 sent, .int .i64 got, .int .u64 re, .int .u64 ma] := by rw [← hwd']; exact CB.two1 _ _ rfl hbc'
  have DC : Blk wd c 35 #[.int .i64 0, .int .i64 4, .int .i64 3, .int .i64 0, .int .i64 6, .int .i64 0, .int .u32 0, .int .u32 0, .int .u32 0, .int .u64 0, .int .u64 0, .int .u64 0, .int .u64 t] := by rw [← hwd']; exact CC.two2 _ _ rfl hcb
  have RD : Below w.heap.size w wd := by rw [← hwd']; exact (Below.stores hwc2 _ _ _ (Below.stores hwb _ _ _ RC)).drew
  clear hwd'
  clear hwd CA CB CC CD ka kb kc kd fb fc
  have kb0 : wd.cell? ⟨b, 0, none⟩ = some (.bool true) := DB.cell 0
  have kb1 : wd.cell? ⟨b, 1, none⟩ = some (.bool false) := DB.cell 1
  have kb2 : wd.cell? ⟨b, 2, none⟩ = some (.int .u64 t) := DB.cell 2
  have kb3 : wd.cell? ⟨b, 3, none⟩ = some (.int .i64 at_) := DB.cell 3
  have kb4 : wd.cell? ⟨b, 4, none⟩ = some (.int .i64 sent) := DB.cell 4
  have kb5 : wd.cell? ⟨b, 5, none⟩ = some (.int .i64 got) := DB.cell 5
  have kb6 : wd.cell? ⟨b, 6, none⟩ = some (.int .u64 re) := DB.cell 6
  have kb7 : wd.cell? ⟨b, 7, none⟩ = some (.int .u64 ma) := DB.cell 7
  have kc0 : wd.cell? ⟨c, 0, none⟩ = some (.int .i64 0) := DC.cell 0
  have kc1 : wd.cell? ⟨c, 1, none⟩ = some (.int .i64 4) := DC.cell 1
  have kc2 : wd.cell? ⟨c, 2, none⟩ = some (.int .i64 3) := DC.cell 2
  have kc3 : wd.cell? ⟨c, 3, none⟩ = some (.int .i64 0) := DC.cell 3
  have kc4 : wd.cell? ⟨c, 4, none⟩ = some (.int .i64 6) := DC.cell 4
  have kc5 : wd.cell? ⟨c, 5, none⟩ = some (.int .i64 0) := DC.cell 5
  have kc6 : wd.cell? ⟨c, 6, none⟩ = some (.int .u32 0) := DC.cell 6
  have kc7 : wd.cell? ⟨c, 7, none⟩ = some (.int .u32 0) := DC.cell 7
  have kc8 : wd.cell? ⟨c, 8, none⟩ = some (.int .u32 0) := DC.cell 8
  have kc9 : wd.cell? ⟨c, 9, none⟩ = some (.int .u64 0) := DC.cell 9
  have kc10 : wd.cell? ⟨c, 10, none⟩ = some (.int .u64 0) := DC.cell 10
  have kc11 : wd.cell? ⟨c, 11, none⟩ = some (.int .u64 0) := DC.cell 11
  have kc12 : wd.cell? ⟨c, 12, none⟩ = some (.int .u64 t) := DC.cell 12
  go_wp2_with fail
  refine bodyPost_ret (v := .tuple #[.agg #[.bool true, .bool false, .int .u64 t, .int .i64 at_, .int .i64 sent, .int .i64 got, .int .u64 re, .int .u64 ma], .agg #[.int .i64 0, .int .i64 4, .int .i64 3, .int .i64 0, .int .i64 6, .int .i64 0, .int .u32 0, .int .u32 0, .int .u32 0, .int .u64 0, .int .u64 0, .int .u64 0, .int .u64 t], .int .i64 0]) (by simp [results, Try.results6, go_sem, *]) rfl ⟨rfl, RD⟩
end Go.Proofs.Ytfkckokaclkjnaa
