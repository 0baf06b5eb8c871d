/- octets.Unhex: the walk. -/
import Derived.Test.YtofadjcphaehcaaUnhA
import Derived.Test.YtofadjcphaehcaaBlk
import Derived.Deep.DeepCutAuto
namespace Go.Proofs.Ytofadjcphaehcaa
open Go.RowKit

def rowB (L : List UInt8) : Array Value := (L.map byteV).toArray
theorem rowB_at (L : List UInt8) (i : Nat) (h : i < L.length) : (rowB L)[i]? = some (.int .u8 (byteAt L i)) := by
  simp only [rowB, List.getElem?_toArray]
  exact byteAt_map h
theorem rowB_set (L : List UInt8) (i : Nat) (x : UInt8) : (rowB L).setIfInBounds i (byteV x) = rowB (L.set i x) := by
  simp only [rowB, List.setIfInBounds_toArray, List.map_set]
theorem Rd.far {w : World} {size : Nat} {A : Option Addr} {n c : Nat} {xs : List Value} {p : Addr} {u : Value} (h : Rd w size A n c xs) (hne : ∀ x, A = some x → x.block ≠ p.block) : Rd (w.setCell p u) size A n c xs :=
  ⟨h.1, h.2.1, h.2.2.1, fun i v hv => by
    obtain ⟨b, off, e, hc⟩ := h.2.2.2 i v hv
    exact ⟨b, off, e, (World.cell?_of_block (a := ⟨b, off + i, none⟩) (Below.heap_setCell w p u b (hne _ e))).trans hc⟩⟩
theorem made_rowB (n : Nat) : madeCells #[Value.int .u8 0] n = rowB (List.replicate n 0) := by
  apply Array.toList_inj.mp
  rw [toList_madeCells_one]
  simp [rowB, byteV]
theorem row_bytes {w : World} {g : Nat} {t : TypeId} {L : List UInt8} {n : Nat} (h : Blk w g t (rowB L)) (hl : L.length = n) (hm : n ≤ maxLen) : Bytes w (some ⟨g, 0, none⟩) n n L := by
  refine ⟨by simpa using hl, Nat.le_refl _, hm, fun i u hu => ⟨g, 0, rfl, ?_⟩⟩
  rw [Nat.zero_add, h.cell i, rowB, List.getElem?_toArray]
  exact hu

set_option maxRecDepth 100000 in
set_option maxHeartbeats 2000000 in
theorem unhex_any (s : ByteArray) (l : List UInt8) (w : World) (hs : s.size ≤ 1000) (hl : s.data.toList = l) :
    Calls Try.prog 25 #[.string s] w fun e w' => ((okU l ∧ ∃ A' c', e = .returned (.tuple #[.slice A' (s.size / 2) c', .bool true]) ∧ Bytes w' A' (s.size / 2) c' (unhexR l (s.size / 2))) ∨
      (¬ okU l ∧ e = .returned (.tuple #[.slice none 0 0, .bool false]))) ∧ Below w.heap.size w w' := by
  have hll : l.length = s.size := by rw [← hl]; exact Array.length_toList
  have HLL := Lib.hid hll
  have HL0 := Lib.hid hl
  clear hll
  by_cases hodd : s.size % 2 = 0
  · have hoi : (s.size : Int) % 2 = 0 := by omega
    obtain ⟨n, hn⟩ : ∃ n, s.size / 2 = n := ⟨_, rfl⟩
    have hni : (s.size : Int) / 2 = (n : Int) := by omega
    have hsn : s.size = 2 * n := by omega
    rw [hn]
    have hmk := make_bytes n (by omega) w
    rw [made_rowB] at hmk
    have hcv := fun (W : World) => Lib.run_convert_string_bytes (P := Try.prog) W 9 23 5 s Try.underlying9 Try.underlying23 Try.underlying5
    go_enter Try.func25, Try.ntmps25
    go_wp2
    clear hmk hcv
    have hB := (Blk.new w 5 (rowB (List.replicate n 0))).stays (conv_below _ 5 s)
    have hC := conv_reads (w.alloc (.cells (rowB (List.replicate n 0)) 5)) 5 s (by unfold maxLen; omega)
    rw [show (w.alloc (.cells (rowB (List.replicate n 0)) 5)).heap.size = w.heap.size + 1 by simp, hsn, hl] at hC
    have hR : Below w.heap.size w (Lib.bytesWorld (w.alloc (.cells (rowB (List.replicate n 0)) 5)) 5 s) := (show Below w.heap.size w (w.alloc _) by go_grown).trans ((conv_below _ 5 s).mono (by simp))
    generalize Lib.bytesWorld (w.alloc (.cells (rowB (List.replicate n 0)) 5)) 5 s = W2 at *
    generalize grownCap (w.alloc (.cells (rowB (List.replicate n 0)) 5)) (2 * n) 0 5 = cp at *
    rw [← rowU_zero l n] at hB
    have q1 := hC.le
    have q2 := hC.cap
    have HB := Lib.hid hB
    have HC := Lib.hid hC
    have HOK := Lib.hid hodd
    clear hB hC hodd hoi hni hn hl
    go_loopw [5, 6, 7, 19] (fun _ _ _ i wr => ∃ j : Nat, j ≤ 2 * n ∧ i = .int .i64 j ∧ Hid (∀ i, i < j → good l i) ∧ Hid (Blk wr w.heap.size 5 (rowB (rowU l n j))) ∧ Hid (Bytes wr (some ⟨w.heap.size + 1, 0, none⟩) (2 * n) cp l) ∧ Below w.heap.size w wr) (fun _ _ _ i _ => 2 * n - (intOf i).toNat)
    case atStart => exact ⟨0, Nat.zero_le _, rfl, fun i h => by omega, HB, HC, hR⟩
    case round =>
      clear HB HC hR
      obtain ⟨j, hj, rfl, HG, HB, HC, hbr⟩ := hrel
      by_cases hjn : j < 2 * n
      · have hji : (j : Int) < 2 * (n : Int) := by omega
        obtain ⟨b', off', e', hc⟩ := HC.out.at_ hjn
        simp only [Option.some.injEq, Addr.mk.injEq, and_true] at e'
        obtain ⟨rfl, rfl⟩ := e'
        rw [Nat.zero_add] at hc
        have hbl := byteAt_lt l j
        go_wp2_with fail
        refine (index_any (byteAt l j) hbl _).mono ?_
        rintro e w0 ⟨rfl, rfl⟩
        by_cases hg : good l j
        · rw [hexI_good hg]
          have HGj := Lib.hid hg
          clear hg
          have hd := dU_lt l j
          have hat := rowU_at l n j hjn
          have c0 := HB.out.cell (j / 2)
          rw [rowB_at _ _ (by rw [rowU_len]; omega), hat] at c0
          have f0 := HB.out.frozen (j / 2)
          obtain ⟨v, hv, hv16⟩ : ∃ v, (if j % 2 = 0 then 0 else dU l (j - 1)) = v ∧ v < 16 := ⟨_, rfl, by split <;> first | omega | exact dU_lt _ _⟩
          rw [hv] at c0
          have HV := Lib.hid hv
          have HO := Lib.hid (shl_or v hv16 (dU l j) hd)
          obtain ⟨d, hdd⟩ : ∃ d, d = dU l j := ⟨_, rfl⟩
          rw [← hdd] at HO hd ⊢
          have HD := Lib.hid hdd
          have hj2 : (j : Int) / 2 < (n : Int) := by omega
          have hj3 : ((j : Int) / 2).toNat = j / 2 := by omega
          clear hv hat hc hdd
          go_wp2
          go_roundw
          case rel =>
            have hval : Value.int .u8 (bits BinOp.or IntKind.u8 ((v : Int) * 16) (d : Int)) = byteV (UInt8.ofNat (v * 16 + d)) := by
              have h1 : bits BinOp.or IntKind.u8 ((v : Int) * 16) (d : Int) = ((v * 16 + d : Nat) : Int) := HO.out
              rw [h1]
              simp only [byteV]
              congr 2
              simp; omega
            rw [hval]
            refine ⟨j + 1, by omega, by go_num, fun i hi => ?_, ?_, ?_, by go_grown⟩
            · by_cases he : i = j
              · rw [he]; exact HGj.out
              · exact HG.out i (by omega)
            · have hp := HB.out.put (j / 2) (byteV (UInt8.ofNat (v * 16 + d)))
              rw [rowB_set, rowU_set l n j hjn _ (by rw [HV.out, HD.out])] at hp
              exact hp
            · exact Rd.far HC.out (by intro x hx; cases hx; simp)
          case measure => simp [intOf]; omega
        · rw [hexI_bad hg]
          have HGj := Lib.hid hg
          clear hg
          go_wp2
          go_returns
          exact ⟨.inr ⟨fun h => HGj.out (h.2 j (by rw [HLL.out]; omega)), rfl⟩, hbr⟩
      · obtain rfl : j = 2 * n := by omega
        go_wp2
        go_returns
        refine ⟨.inl ⟨⟨by rw [HLL.out]; exact HOK.out, fun i hi => HG.out i (by rw [HLL.out] at hi; omega)⟩, _, _, rfl, ?_⟩, hbr⟩
        have hb := HB.out
        rw [rowU_end] at hb
        exact row_bytes hb (by simp [unhexR]) (by unfold maxLen; omega)
  · have hoi : ¬ (s.size : Int) % 2 = 0 := by omega
    go_enter Try.func25, Try.ntmps25
    go_wp2
    go_returns
    exact ⟨.inr ⟨fun h => hodd (by rw [← HLL.out]; exact h.1), rfl⟩, by go_grown⟩
end Go.Proofs.Ytofadjcphaehcaa
