/- Trees: the root of both. -/
import Derived.Test.YtahphlcahaheiaaTreeA
import Derived.Test.YtahphlcahaheiaaTreeB
import Derived.Test.YtahphlcahaheiaaClone
import Derived.Deep.RegionLaw
namespace Go.Proofs.Ytahphlcahaheiaa
open Go.RowKit

/-- All of the first n elements have 32 bytes. -/
def all32 (ls : List (List UInt8)) : Prop := ∀ l ∈ ls, l.length = 32
theorem all32.take {ls : List (List UInt8)} (h : all32 ls) (k : Nat) : all32 (ls.take k) := fun l hl => h l (List.mem_of_mem_take hl)
theorem all32.drop {ls : List (List UInt8)} (h : all32 ls) (k : Nat) : all32 (ls.drop k) := fun l hl => h l (List.mem_of_mem_drop hl)
theorem all32.at_ {ls : List (List UInt8)} (h : all32 ls) {i : Nat} (hi : i < ls.length) : (listAt ls i).length = 32 := h _ (by simp [listAt, List.getD, hi])
/-- No element has more than 100000 bytes. -/
def few (ls : List (List UInt8)) : Prop := ∀ l ∈ ls, l.length ≤ 100000
theorem few.take {ls : List (List UInt8)} (h : few ls) (k : Nat) : few (ls.take k) := fun l hl => h l (List.mem_of_mem_take hl)
theorem few.drop {ls : List (List UInt8)} (h : few ls) (k : Nat) : few (ls.drop k) := fun l hl => h l (List.mem_of_mem_drop hl)
theorem few.at_ {ls : List (List UInt8)} (h : few ls) {i : Nat} (hi : i < ls.length) : (listAt ls i).length ≤ 100000 := h _ (by simp [listAt, List.getD, hi])
theorem leaf_length (b : List UInt8) : (leafL b).length = 32 := sumL_length _
theorem node_length (l r : List UInt8) : (nodeL l r).length = 32 := sumL_length _
theorem all32_leaves (ls : List (List UInt8)) : all32 (ls.map leafL) := fun l hl => by
  obtain ⟨b, _, rfl⟩ := List.mem_map.1 hl
  exact leaf_length b
set_option maxRecDepth 100000 in
set_option maxHeartbeats 4000000 in
theorem root_any (n : Nat) : ∀ (ls : List (List UInt8)) (A : Option Addr) (c : Nat) (w : World), Lists w A n c ls → n ≤ 1024 → all32 ls →
    Calls Try.prog 66 #[.slice A n c] w fun e w' => ∃ A' c', e = .returned (.slice A' 32 c') ∧ Bytes w' A' 32 c' (rootL ls) ∧ Fresh w.heap.size A' ∧ Below w.heap.size w w' := by
  induction n using Nat.strongRecOn with
  | ind n ih =>
  intro ls A c w h hn hall
  have IH := Lib.hid ih
  have HA := Lib.hid hall
  have HB := Lib.hid h
  have HLn := Lib.hid h.len
  have hcl := h.le
  have hcc := h.cap
  clear ih hall h
  by_cases h0 : n = 0
  · subst h0
    have HR : Hid (rootL ls = sumL []) := by
      unfold Hid
      rw [rootL, if_pos HLn.out]
    go_enter Try.func66, Try.ntmps66
    go_wp2_with fail
    refine (sum_any [] _ _ _ _ (Bytes.nil _ _ _ (by decide))).mono ?_
    rintro e w2 ⟨A2, c2, rfl, hv, hb⟩
    have V2 : Hid (Bytes w2 A2 32 c2 (rootL ls)) := by unfold Hid; rw [HR.out]; exact own_rd hv
    have F2 := Lib.hid (Fresh.own hv)
    clear hv
    go_wp2
    go_ret
    exact ⟨_, _, rfl, V2.out, F2.out, hb⟩
  by_cases h1 : n = 1
  · subst h1
    obtain ⟨b, off, A', n', c', rfl, hc, hy⟩ := HB.out.at_ (i := 0) (by omega)
    rw [Nat.add_zero] at hc
    have HR : Hid (rootL ls = listAt ls 0) := rootL_one ls HLn.out
    obtain rfl : n' = 32 := by rw [← hy.len]; exact HA.out.at_ (by rw [HLn.out]; omega)
    have HY := Lib.hid hy
    clear hy
    go_enter Try.func66, Try.ntmps66
    go_wp2_with fail
    refine (clone_any _ _ _ _ _ HY.out (by omega)).mono ?_
    rintro e w2 ⟨A2, c2, rfl, hv, hb⟩
    have V2 : Hid (Bytes w2 A2 32 c2 (rootL ls)) := by unfold Hid; rw [HR.out]; exact own_rd hv
    have F2 := Lib.hid (Fresh.own hv)
    clear hv
    go_wp2
    go_ret
    exact ⟨_, _, rfl, V2.out, F2.out, hb⟩
  · have h2 : 2 ≤ n := by omega
    have hb0 : ((n : Int) == 0) = false := by simp; omega
    have hb1 : ((n : Int) == 1) = false := by simp; omega
    clear h0 h1
    have HR : Hid (rootL ls = nodeL (rootL (ls.take (halfN n))) (rootL (ls.drop (halfN n)))) := by unfold Hid; rw [rootL_more ls (by rw [HLn.out]; exact h2), HLn.out]
    have hk1 := half_lt h2
    have hk0 := half_pos n
    go_enter Try.func66, Try.ntmps66
    go_wp2_with fail
    refine (divide_any _ _ _ _ h2 hn hcl hcc).mono ?_
    rintro e w1 ⟨rfl, hb⟩
    generalize halfN n = k at *
    have TL := Lib.hid ((HB.out.cutTo k (by omega)).stays hb)
    have TR := Lib.hid ((HB.out.cutFrom k (by omega) (d := n - k) (k := c - k) rfl rfl).stays hb)
    have R1 := Lib.hid hb
    have hs1 := hb.size
    clear hb HB
    go_wp2_with fail
    refine (IH.out k hk1 _ _ _ _ TL.out (by omega) (HA.out.take k)).mono ?_
    rintro e w2 ⟨A2, c2, rfl, hv, hf, hb⟩
    have V2 := Lib.hid hv
    have TR := Lib.hid (TR.out.stays hb)
    have R2 := Lib.hid (R1.out.trans (hb.mono hs1))
    have hs2 := R2.out.size
    clear hv hf hb TL
    go_wp2_with fail
    refine (IH.out (n - k) (by omega) _ _ _ _ TR.out (by omega) (HA.out.drop k)).mono ?_
    rintro e w3 ⟨A3, c3, rfl, hv, hf, hb⟩
    have V3 := Lib.hid hv
    have V2 := Lib.hid (V2.out.stays hb)
    have R3 := Lib.hid (R2.out.trans (hb.mono hs2))
    have hs3 := R3.out.size
    clear hv hf hb TR
    go_wp2_with fail
    refine (node_any _ _ _ _ _ _ _ _ _ V2.out V3.out (by omega) (by omega)).mono ?_
    rintro e w4 ⟨A4, c4, rfl, hv, hf, hb⟩
    have V4 : Hid (Bytes w4 A4 32 c4 (rootL ls)) := by unfold Hid; rw [HR.out]; exact hv
    have F4 := Lib.hid (hf.more (B' := w.heap.size) hs3)
    have R4 := Lib.hid (R3.out.trans (hb.mono hs3))
    clear hv hf hb
    go_wp2
    go_ret
    exact ⟨_, _, rfl, V4.out, F4.out, R4.out⟩
set_option maxRecDepth 100000 in
set_option maxHeartbeats 4000000 in
theorem refRoot_any (n : Nat) : ∀ (ls : List (List UInt8)) (A : Option Addr) (c : Nat) (w : World), Lists w A n c ls → n ≤ 1024 → few ls →
    Calls Try.prog 75 #[.slice A n c] w fun e w' => ∃ A' c', e = .returned (.slice A' 32 c') ∧ Bytes w' A' 32 c' (rootL (ls.map leafL)) ∧ Fresh w.heap.size A' ∧ Below w.heap.size w w' := by
  induction n using Nat.strongRecOn with
  | ind n ih =>
  intro ls A c w h hn hall
  have IH := Lib.hid ih
  have HA := Lib.hid hall
  have HB := Lib.hid h
  have HLn := Lib.hid h.len
  have hcl := h.le
  have hcc := h.cap
  clear ih hall h
  by_cases h0 : n = 0
  · subst h0
    have HR : Hid (rootL (ls.map leafL) = sumL []) := by
      unfold Hid
      rw [rootL, if_pos (by rw [List.length_map]; exact HLn.out)]
    go_enter Try.func75, Try.ntmps75
    go_wp2_with fail
    refine (refSum_any [] _ _ _ _ (Bytes.nil _ _ _ (by decide))).mono ?_
    rintro e w2 ⟨A2, c2, rfl, hv, hb⟩
    have V2 : Hid (Bytes w2 A2 32 c2 (rootL (ls.map leafL))) := by unfold Hid; rw [HR.out]; exact own_rd hv
    have F2 := Lib.hid (Fresh.own hv)
    clear hv
    go_wp2
    go_ret
    exact ⟨_, _, rfl, V2.out, F2.out, hb⟩
  by_cases h1 : n = 1
  · subst h1
    obtain ⟨b, off, A', n', c', rfl, hc, hy⟩ := HB.out.at_ (i := 0) (by omega)
    rw [Nat.add_zero] at hc
    have HR : Hid (rootL (ls.map leafL) = leafL (listAt ls 0)) := by
      unfold Hid
      rw [rootL_one _ (by rw [List.length_map]; exact HLn.out)]
      have hl : 0 < ls.length := by rw [HLn.out]; omega
      simp [listAt, List.getD, hl]
    have hn' : n' ≤ 100000 := by rw [← hy.len]; exact HA.out.at_ (by rw [HLn.out]; omega)
    have HY := Lib.hid hy
    clear hy
    go_enter Try.func75, Try.ntmps75
    go_wp2_with fail
    refine (refLeaf_any _ _ _ _ _ HY.out (by omega)).mono ?_
    rintro e w2 ⟨A2, c2, rfl, hv, hf, hb⟩
    have V2 : Hid (Bytes w2 A2 32 c2 (rootL (ls.map leafL))) := by unfold Hid; rw [HR.out]; exact hv
    have F2 := Lib.hid hf
    clear hv hf
    go_wp2
    go_ret
    exact ⟨_, _, rfl, V2.out, F2.out, hb⟩
  · have h2 : 2 ≤ n := by omega
    have hb0 : ((n : Int) == 0) = false := by simp; omega
    have hb1 : ((n : Int) == 1) = false := by simp; omega
    clear h0 h1
    have HR : Hid (rootL (ls.map leafL) = nodeL (rootL ((ls.take (halfN n)).map leafL)) (rootL ((ls.drop (halfN n)).map leafL))) := by
      unfold Hid
      rw [rootL_more _ (by rw [List.length_map, HLn.out]; exact h2), List.length_map, HLn.out, List.map_take, List.map_drop]
    have hk1 := half_lt h2
    have hk0 := half_pos n
    go_enter Try.func75, Try.ntmps75
    go_wp2_with fail
    refine (split_any _ _ h2 (by omega)).mono ?_
    rintro e w1 ⟨rfl, rfl⟩
    generalize halfN n = k at *
    have TL := Lib.hid (HB.out.cutTo k (by omega))
    have TR := Lib.hid (HB.out.cutFrom k (by omega) (d := n - k) (k := c - k) rfl rfl)
    clear HB
    have s1 := run_cutFrom und_lists size_list (A := A) (n := n) (c := c) (k : Int) k (n - k) (c - k) rfl (by omega) rfl rfl
    have kc : (k : Int) ≤ (c : Int) := by omega
    have kn0 : (0 : Int) ≤ (k : Int) := by omega
    go_wp2_with fail
    go_region_law (first
      | (go_simp; go_at_call 75; (with_reducible refine (IH.out k hk1 _ _ _ _ (TL.out.stays (by go_grown)) (by omega) (HA.out.take k)).mono ?_); rintro e w2 ⟨A2, c2, rfl, hv2, hf2, hb2⟩; have R2 : Below w.heap.size w w2 := below_via (by go_grown) hb2 (by first | (simp; done) | (simp; omega)))
      | (go_simp; go_at_call 75; (with_reducible refine (IH.out (n - k) (by omega) _ _ _ _ (TR.out.stays (R2.trans (by go_grown))) (by omega) (HA.out.drop k)).mono ?_); rintro e w3 ⟨A3, c3, rfl, hv3, hf3, hb3⟩; have R3 : Below w.heap.size w w3 := R2.trans ((below_via (show Below w2.heap.size w2 _ by go_grown) hb3 (by first | (simp; done) | (simp; omega))).mono R2.size); have V2 := hv2.stays (below_via (show Below w2.heap.size w2 _ by go_grown) hb3 (by first | (simp; done) | (simp; omega))))
      | (go_simp; go_at_call 52; (with_reducible refine (refNode_any _ _ _ _ _ _ _ _ _ (V2.stays (by go_grown)) (hv3.stays (by go_grown)) (by omega) (by omega)).mono ?_); rintro e w4 ⟨A4, c4, rfl, hv, hf, hb⟩; have hbx := below_via (show Below w3.heap.size w3 _ by go_grown) hb (by first | (simp; done) | (simp; omega)); have V4 : Hid (Bytes w4 A4 32 c4 (rootL (ls.map leafL))) := (by unfold Hid; rw [HR.out]; exact hv); have F4 := Lib.hid (hf.more (B' := w.heap.size) (by have := R3.size; first | omega | (simp; omega))); have R4 := Lib.hid (R3.trans (hbx.mono R3.size)); clear hv hf hb hbx))
    all_goals
      go_wp2
      go_ret
      exact ⟨_, _, rfl, V4.out, F4.out, R4.out⟩
end Go.Proofs.Ytahphlcahaheiaa
