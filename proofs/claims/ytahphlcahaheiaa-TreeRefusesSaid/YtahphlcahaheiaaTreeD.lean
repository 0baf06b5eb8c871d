/- Trees: the hashes of leaves; paths and proofs of both. -/
import Derived.Test.YtahphlcahaheiaaTreeC
import Derived.Test.YtahphlcahaheiaaBlk
import Derived.Test.YtahphlcahaheiaaShaW
namespace Go.Proofs.Ytahphlcahaheiaa
open Go.RowKit

theorem infoHash : (Try.prog.info? 22).map (fun i => (i.zero, i.size, i.bytes)) = some (some (.slice none 0 0), 1, 24) := by kernel_rfl
def nilT : Value := .slice none 0 0
/-- A row of n slices of which the first j are laid. -/
def rowN (n : Nat) (vs : List Value) (j : Nat) : Array Value := (vs ++ List.replicate (n - j) nilT).toArray
theorem make_hashes (n : Nat) (hn : n ≤ 100000) (w : World) : (Instr.makeSlice 66 (.int .i64 n) (.int .i64 n)).run Try.prog w =
    .ok (.slice (some ⟨w.heap.size, 0, none⟩) n n) (w.alloc (.cells (rowN n [] 0) 22)) := by
  obtain ⟨i0, hi, hz0, hz1, hz2⟩ := info_parts infoHash
  have := run_make (P := Try.prog) w 66 22 i0 (.slice none 0 0) Try.underlying66 hi hz0 .i64 .i64 n n (by omega) (by omega) (by rw [hz2]; omega) (by omega)
  have e : madeCells #[nilT] n = rowN n [] 0 := by
    apply Array.toList_inj.mp
    rw [toList_madeCells_one]; simp [rowN]
  rw [← e]
  simpa [hz1, Value.cells, nilT] using this
theorem rowN_at (n : Nat) (vs : List Value) (j : Nat) (hl : vs.length = j) (h : j < n) : (rowN n vs j)[j]? = some nilT := by
  simp only [rowN, List.getElem?_toArray]
  rw [List.getElem?_append_right (by omega)]
  simp [List.getElem?_replicate, hl]; omega
theorem rowN_set (n : Nat) (vs : List Value) (j : Nat) (v : Value) (hl : vs.length = j) (h : j < n) : (rowN n vs j).setIfInBounds j v = rowN n (vs ++ [v]) (j + 1) := by
  simp only [rowN, List.setIfInBounds_toArray]
  congr 1
  rw [show n - j = (n - (j + 1)) + 1 by omega, List.replicate_succ, List.set_append_right _ _ (by omega), hl, Nat.sub_self, List.set_cons_zero, List.append_assoc]
  rfl
theorem rowN_rd {w : World} {g n : Nat} {t : TypeId} {vs : List Value} (h : Blk w g t (rowN n vs n)) (hl : vs.length = n) (hn : n ≤ 100000) : Rd w 1 (some ⟨g, 0, none⟩) n n vs := by
  refine ⟨by omega, Nat.le_refl _, by unfold maxLen; omega, fun i u hu => ⟨g, 0, rfl, ?_⟩⟩
  rw [Nat.zero_add, h.cell i]
  simpa [rowN] using hu
theorem itemsV_putN {w : World} {g : Nat} {vs : List Value} {ls : List (List UInt8)} (h : ItemsV 1 encB id w (some g) vs ls) (k : Nat) (v : Value) : ItemsV 1 encB id (w.setCell ⟨g, k, none⟩ v) (some g) vs ls :=
  h.grew (grown_put (World.grownBy.refl w _) k v) (.inl rfl)
theorem OwnItems.one {w : World} {e : TypeId} {A : Option Addr} {n c : Nat} {l : List UInt8} (h : Bytes w A n c l) : OwnItems 1 encB id e (w.alloc (.cells #[.slice A n c] e)) w.heap.size (some ⟨w.heap.size, 0, none⟩) 1 1 [l] := by
  refine ⟨[.slice A n c], World.ownsRow_lit w #[.slice A n c] 1 (Nat.le_refl _) (by decide) rfl, ?_⟩
  have ho : Off A n (some w.heap.size) := fun a ha hn e' => by injection e' with e'; have := h.lt hn a ha; omega
  have := (ItemsV.nil (sz := 1) (enc := encB) (dat := id) (w.alloc (.cells #[.slice A n c] e)) (some w.heap.size)).snoc l A n c rfl (h.stays ((Below.refl _ _).alloc (Nat.le_refl _) _)) ho
  exact this
theorem take_map_leaf (ls : List (List UInt8)) (j : Nat) (h : j < ls.length) : (ls.take (j + 1)).map leafL = (ls.take j).map leafL ++ [leafL (listAt ls j)] := by
  rw [List.take_succ_eq_append_getElem h, List.map_append]
  simp [listAt, List.getD, h]
set_option maxRecDepth 100000 in
set_option maxHeartbeats 4000000 in
theorem of_any (n : Nat) (ls : List (List UInt8)) (A : Option Addr) (c : Nat) (w : World) (h : Lists w A n c ls) (hn : n ≤ 1024) (hf : few ls) :
    Calls Try.prog 65 #[.slice A n c] w fun e w' => ∃ A', e = .returned (.slice A' n n) ∧ Lists w' A' n n (ls.map leafL) ∧ Below w.heap.size w w' := by
  have HA := Lib.hid hf
  have HB := Lib.hid h
  have HLn := Lib.hid h.len
  have hcl := h.le
  have hcc := h.cap
  have hmk := make_hashes n (by omega)
  clear h hf
  go_enter Try.func65, Try.ntmps65
  go_wp2
  clear hmk
  have hB0 := Lib.hid (Blk.new w 22 (rowN n [] 0))
  go_loopw [4, 5, 11] (fun _ _ i' wr => ∃ (j : Nat) (vs : List Value), j ≤ n ∧ i' = .int .i64 j ∧ Hid (vs.length = j) ∧ Hid (Blk wr w.heap.size 22 (rowN n vs j)) ∧ Hid (ItemsV 1 encB id wr (some w.heap.size) vs ((ls.take j).map leafL)) ∧ Below w.heap.size w wr ∧ w.heap.size < wr.heap.size) (fun _ _ i' _ => n - (intOf i').toNat)
  case atStart => exact ⟨0, [], by omega, rfl, rfl, hB0, ItemsV.nil _ _, by go_grown, by simp⟩
  case round =>
    clear hB0
    obtain ⟨j, vs, hj, rfl, hvl, HK, HI, hbr, hlt⟩ := hrel
    by_cases hjn : j < n
    · have hji : (j : Int) < (n : Int) := by omega
      obtain ⟨b, off, A', n', c', rfl, hc, hy⟩ := (HB.out.stays hbr).at_ hjn
      have hn' : n' ≤ 100000 := by rw [← hy.len]; exact HA.out.at_ (by rw [HLn.out]; exact hjn)
      have HY := Lib.hid hy
      have HST := Lib.hid (take_map_leaf ls j (by rw [HLn.out]; exact hjn))
      have y1 := hy.le
      have y2 := hy.cap
      clear hy
      go_wp2_with fail
      refine (leaf_any _ _ _ _ _ HY.out (by omega)).mono ?_
      rintro e w3 ⟨A3, c3, rfl, hv, hf, hb⟩
      have V3 := Lib.hid hv
      have hs3 := hb.size
      have HO3 := Lib.hid (Off.fresh (n := 32) (bad := some w.heap.size) hf (fun k hk => by injection hk with hk; omega))
      have HB3 := Lib.hid (HK.out.stays hb)
      have HI3 := Lib.hid (HI.out.stays hb)
      have R3 : Below w.heap.size w w3 := hbr.trans (hb.mono (by omega))
      clear hv hf hb HK HI hc
      have e0 := HB3.out.cell j
      rw [rowN_at n vs j hvl.out hjn] at e0
      have e1 := HB3.out.frozen j
      have hlt3 : w.heap.size < w3.heap.size := by omega
      go_wp2
      go_roundw
      case rel =>
        refine ⟨j + 1, vs ++ [.slice A3 32 c3], by omega, by go_num, by unfold Hid; simp [hvl.out], ?_, ?_, R3.setCell (p := ⟨w.heap.size, j, none⟩) (Nat.le_refl _) _, by simpa using hlt3⟩
        · have := HB3.out.put j (.slice A3 32 c3)
          rw [rowN_set n vs j _ hvl.out hjn] at this
          exact this
        · unfold Hid
          rw [HST.out]
          exact (itemsV_putN HI3.out j _).snoc _ A3 32 c3 rfl (V3.out.kept (grown_put (World.grownBy.refl w3 _) j _) HO3.out) HO3.out
      case measure => simp [intOf]; omega
    · obtain rfl : j = n := by omega
      go_wp2
      go_ret
      have hI := HI.out
      rw [List.take_of_length_le (by rw [HLn.out]; exact Nat.le_refl _)] at hI
      exact ⟨_, rfl, hI.lists (rowN_rd HK.out hvl.out (by omega)), hbr⟩
end Go.Proofs.Ytahphlcahaheiaa
