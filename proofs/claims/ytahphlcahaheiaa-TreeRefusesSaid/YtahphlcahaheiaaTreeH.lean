/- Trees: Root, Path, Consistency of both. -/
import Derived.Test.YtahphlcahaheiaaTreeE
import Derived.Test.YtahphlcahaheiaaTreeF
import Derived.Test.YtahphlcahaheiaaTreeG
namespace Go.Proofs.Ytahphlcahaheiaa
open Go.RowKit

set_option maxRecDepth 100000 in
set_option maxHeartbeats 4000000 in
theorem rootOf_ok {n : Nat} {ls : List (List UInt8)} {A : Option Addr} {c : Nat} {w : World} (h : Lists w A n c ls) (hn : n ≤ 1024) (hf : few ls) :
    Calls Try.prog 38 #[.slice A n c] w fun e w' => ∃ A' c', e = .returned (.tuple #[.slice A' 32 c', .int .i64 0]) ∧ Bytes w' A' 32 c' (rootL (ls.map leafL)) ∧ Fresh w.heap.size A' ∧ Below w.heap.size w w' := by
  have HA := Lib.hid hf
  have HB := Lib.hid h
  have hcl := h.le
  have hcc := h.cap
  have hni : ¬ (n : Int) > 1024 := by omega
  clear h hf
  go_enter Try.func38, Try.ntmps38
  go_wp2_with fail
  refine (of_any _ _ _ _ _ HB.out hn HA.out).mono ?_
  rintro e w1 ⟨A1, rfl, hv, hb⟩
  have V1 := Lib.hid hv
  have R1 := Lib.hid hb
  have hs1 := hb.size
  clear hv hb
  go_wp2_with fail
  refine (root_any _ _ _ _ _ V1.out hn (all32_leaves _)).mono ?_
  rintro e w2 ⟨A2, c2, rfl, hv, hf, hb⟩
  have V2 := Lib.hid hv
  have F2 := Lib.hid (hf.more (B' := w.heap.size) hs1)
  have R2 := Lib.hid (R1.out.trans (hb.mono hs1))
  clear hv hf hb
  go_wp2
  go_returns
  exact ⟨_, _, rfl, V2.out, F2.out, R2.out⟩
set_option maxRecDepth 100000 in
set_option maxHeartbeats 4000000 in
theorem pathOf_ok {n i : Nat} {ls : List (List UInt8)} {A : Option Addr} {c : Nat} {w : World} (h : Lists w A n c ls) (hn : n ≤ 1024) (hf : few ls) (hin : i < n) :
    Calls Try.prog 42 #[.slice A n c, .int .i64 i] w fun e w' => ∃ A' m' c', e = .returned (.tuple #[.slice A' m' c', .int .i64 0]) ∧ OwnItems 1 encB id 22 w' w.heap.size A' m' c' (pathL (ls.map leafL) i) ∧ m' ≤ n ∧ Below w.heap.size w w' := by
  have HA := Lib.hid hf
  have HB := Lib.hid h
  have hcl := h.le
  have hcc := h.cap
  have hni : ¬ (n : Int) > 1024 := by omega
  have h0 : ¬ (i : Int) < 0 := by omega
  have h1 : ¬ (i : Int) ≥ (n : Int) := by omega
  clear h hf
  go_enter Try.func42, Try.ntmps42
  go_wp2_with fail
  refine (of_any _ _ _ _ _ HB.out hn HA.out).mono ?_
  rintro e w1 ⟨A1, rfl, hv, hb⟩
  have V1 := Lib.hid hv
  have R1 := Lib.hid hb
  have hs1 := hb.size
  clear hv hb
  go_wp2_with fail
  refine (path_any _ _ i _ _ _ V1.out hin hn (all32_leaves _)).mono ?_
  rintro e w2 ⟨A2, m2, c2, rfl, hv, hm2, hb⟩
  have V2 := Lib.hid (hv.more hs1)
  have R2 := Lib.hid (R1.out.trans (hb.mono hs1))
  clear hv hb
  go_wp2
  go_returns
  exact ⟨_, _, _, rfl, V2.out, hm2, R2.out⟩
set_option maxRecDepth 100000 in
set_option maxHeartbeats 4000000 in
theorem pathOf_range (A : Option Addr) (n c : Nat) (i : Int) (w : World) (hn : n ≤ 1024) (h : i < 0 ∨ (n : Int) ≤ i) :
    Calls Try.prog 42 #[.slice A n c, .int .i64 i] w fun e w' => e = .returned (.tuple #[.slice none 0 0, .int .i64 4]) ∧ Below w.heap.size w w' := by
  have hni : ¬ (n : Int) > 1024 := by omega
  by_cases h0 : i < 0
  · clear h
    go_enter Try.func42, Try.ntmps42
    go_wp2
    go_returns
    exact ⟨rfl, by go_grown⟩
  · have h1 : i ≥ (n : Int) := by omega
    clear h
    go_enter Try.func42, Try.ntmps42
    go_wp2
    go_returns
    exact ⟨rfl, by go_grown⟩
set_option maxRecDepth 100000 in
set_option maxHeartbeats 4000000 in
theorem consOf_ok {n m : Nat} {ls : List (List UInt8)} {A : Option Addr} {c : Nat} {w : World} (h : Lists w A n c ls) (hn : n ≤ 1024) (hf : few ls) (hm1 : 1 ≤ m) (hin : m ≤ n) :
    Calls Try.prog 48 #[.slice A n c, .int .i64 m] w fun e w' => ∃ A' m' c', e = .returned (.tuple #[.slice A' m' c', .int .i64 0]) ∧ OwnItems 1 encB id 22 w' w.heap.size A' m' c' (proofL (ls.map leafL) m true) ∧ m' ≤ n ∧ Below w.heap.size w w' := by
  have HA := Lib.hid hf
  have HB := Lib.hid h
  have hcl := h.le
  have hcc := h.cap
  have hni : ¬ (n : Int) > 1024 := by omega
  have h0 : ¬ (m : Int) < 1 := by omega
  have h1 : ¬ (m : Int) > (n : Int) := by omega
  clear h hf
  go_enter Try.func48, Try.ntmps48
  go_wp2_with fail
  refine (of_any _ _ _ _ _ HB.out hn HA.out).mono ?_
  rintro e w1 ⟨A1, rfl, hv, hb⟩
  have V1 := Lib.hid hv
  have R1 := Lib.hid hb
  have hs1 := hb.size
  clear hv hb
  go_wp2_with fail
  refine (proof_any _ _ m true _ _ _ V1.out hm1 hin hn (all32_leaves _)).mono ?_
  rintro e w2 ⟨A2, m2, c2, rfl, hv, hm2, hb⟩
  have V2 := Lib.hid (hv.more hs1)
  have R2 := Lib.hid (R1.out.trans (hb.mono hs1))
  clear hv hb
  go_wp2
  go_returns
  exact ⟨_, _, _, rfl, V2.out, hm2, R2.out⟩
set_option maxRecDepth 100000 in
set_option maxHeartbeats 4000000 in
theorem consOf_range (A : Option Addr) (n c : Nat) (m : Int) (w : World) (hn : n ≤ 1024) (h : m < 1 ∨ (n : Int) < m) :
    Calls Try.prog 48 #[.slice A n c, .int .i64 m] w fun e w' => e = .returned (.tuple #[.slice none 0 0, .int .i64 4]) ∧ Below w.heap.size w w' := by
  have hni : ¬ (n : Int) > 1024 := by omega
  by_cases h0 : m < 1
  · clear h
    go_enter Try.func48, Try.ntmps48
    go_wp2
    go_returns
    exact ⟨rfl, by go_grown⟩
  · have h1 : m > (n : Int) := by omega
    clear h
    go_enter Try.func48, Try.ntmps48
    go_wp2
    go_returns
    exact ⟨rfl, by go_grown⟩
set_option maxRecDepth 100000 in
set_option maxHeartbeats 4000000 in
theorem refRootOf_ok {n : Nat} {ls : List (List UInt8)} {A : Option Addr} {c : Nat} {w : World} (h : Lists w A n c ls) (hn : n ≤ 1024) (hf : few ls) :
    Calls Try.prog 43 #[.slice A n c] w fun e w' => ∃ A' c', e = .returned (.tuple #[.slice A' 32 c', .int .i64 0]) ∧ Bytes w' A' 32 c' (rootL (ls.map leafL)) ∧ Fresh w.heap.size A' ∧ Below w.heap.size w w' := by
  have HA := Lib.hid hf
  have HB := Lib.hid h
  have hcl := h.le
  have hcc := h.cap
  have hni : ¬ (n : Int) > 1024 := by omega
  clear h hf
  go_enter Try.func43, Try.ntmps43
  go_wp2_with fail
  refine (refRoot_any _ _ _ _ _ HB.out hn HA.out).mono ?_
  rintro e w2 ⟨A2, c2, rfl, hv, hf, hb⟩
  have V2 := Lib.hid hv
  have F2 := Lib.hid hf
  have R2 := Lib.hid hb
  clear hv hf hb
  go_wp2
  go_returns
  exact ⟨_, _, rfl, V2.out, F2.out, R2.out⟩
set_option maxRecDepth 100000 in
set_option maxHeartbeats 4000000 in
theorem refPathOf_ok {n i : Nat} {ls : List (List UInt8)} {A : Option Addr} {c : Nat} {w : World} (h : Lists w A n c ls) (hn : n ≤ 1024) (hf : few ls) (hin : i < n) :
    Calls Try.prog 44 #[.slice A n c, .int .i64 i] w fun e w' => ∃ A' m' c', e = .returned (.tuple #[.slice A' m' c', .int .i64 0]) ∧ OwnItems 1 encB id 22 w' w.heap.size A' m' c' (pathL (ls.map leafL) i) ∧ m' ≤ n ∧ Below w.heap.size w w' := by
  have HA := Lib.hid hf
  have HB := Lib.hid h
  have hcl := h.le
  have hcc := h.cap
  have hni : ¬ (n : Int) > 1024 := by omega
  have h0 : ¬ (i : Int) < 0 := by omega
  have h1 : ¬ (i : Int) ≥ (n : Int) := by omega
  clear h hf
  go_enter Try.func44, Try.ntmps44
  go_wp2_with fail
  refine (refPath_any _ _ i _ _ _ HB.out hin hn HA.out).mono ?_
  rintro e w2 ⟨A2, m2, c2, rfl, hv, hm2, hb⟩
  have V2 := Lib.hid hv
  have R2 := Lib.hid hb
  clear hv hb
  go_wp2
  go_returns
  exact ⟨_, _, _, rfl, V2.out, hm2, R2.out⟩
set_option maxRecDepth 100000 in
set_option maxHeartbeats 4000000 in
theorem refPathOf_range (A : Option Addr) (n c : Nat) (i : Int) (w : World) (hn : n ≤ 1024) (h : i < 0 ∨ (n : Int) ≤ i) :
    Calls Try.prog 44 #[.slice A n c, .int .i64 i] w fun e w' => e = .returned (.tuple #[.slice none 0 0, .int .i64 4]) ∧ Below w.heap.size w w' := by
  have hni : ¬ (n : Int) > 1024 := by omega
  by_cases h0 : i < 0
  · clear h
    go_enter Try.func44, Try.ntmps44
    go_wp2
    go_returns
    exact ⟨rfl, by go_grown⟩
  · have h1 : i ≥ (n : Int) := by omega
    clear h
    go_enter Try.func44, Try.ntmps44
    go_wp2
    go_returns
    exact ⟨rfl, by go_grown⟩
set_option maxRecDepth 100000 in
set_option maxHeartbeats 4000000 in
theorem refConsOf_ok {n m : Nat} {ls : List (List UInt8)} {A : Option Addr} {c : Nat} {w : World} (h : Lists w A n c ls) (hn : n ≤ 1024) (hf : few ls) (hm1 : 1 ≤ m) (hin : m ≤ n) :
    Calls Try.prog 49 #[.slice A n c, .int .i64 m] w fun e w' => ∃ A' m' c', e = .returned (.tuple #[.slice A' m' c', .int .i64 0]) ∧ OwnItems 1 encB id 22 w' w.heap.size A' m' c' (proofL (ls.map leafL) m true) ∧ m' ≤ n ∧ Below w.heap.size w w' := by
  have HA := Lib.hid hf
  have HB := Lib.hid h
  have hcl := h.le
  have hcc := h.cap
  have hni : ¬ (n : Int) > 1024 := by omega
  have h0 : ¬ (m : Int) < 1 := by omega
  have h1 : ¬ (m : Int) > (n : Int) := by omega
  clear h hf
  go_enter Try.func49, Try.ntmps49
  go_wp2_with fail
  refine (refProof_any _ _ m true _ _ _ HB.out hm1 hin hn HA.out).mono ?_
  rintro e w2 ⟨A2, m2, c2, rfl, hv, hm2, hb⟩
  have V2 := Lib.hid hv
  have R2 := Lib.hid hb
  clear hv hb
  go_wp2
  go_returns
  exact ⟨_, _, _, rfl, V2.out, hm2, R2.out⟩
set_option maxRecDepth 100000 in
set_option maxHeartbeats 4000000 in
theorem refConsOf_range (A : Option Addr) (n c : Nat) (m : Int) (w : World) (hn : n ≤ 1024) (h : m < 1 ∨ (n : Int) < m) :
    Calls Try.prog 49 #[.slice A n c, .int .i64 m] w fun e w' => e = .returned (.tuple #[.slice none 0 0, .int .i64 4]) ∧ Below w.heap.size w w' := by
  have hni : ¬ (n : Int) > 1024 := by omega
  by_cases h0 : m < 1
  · clear h
    go_enter Try.func49, Try.ntmps49
    go_wp2
    go_returns
    exact ⟨rfl, by go_grown⟩
  · have h1 : m > (n : Int) := by omega
    clear h
    go_enter Try.func49, Try.ntmps49
    go_wp2
    go_returns
    exact ⟨rfl, by go_grown⟩
end Go.Proofs.Ytahphlcahaheiaa
