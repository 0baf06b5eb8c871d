/- rough.named and the reference's. -/
import Derived.Test.YtbjmojajhkhekaaTag
import Derived.Lib.OthersKept
import Derived.Lib.TrimU
import Derived.Deep.LoopGhost
namespace Go.Proofs.Ytbjmojajhkhekaa
open Go Go.RowKit

set_option maxHeartbeats 1000000 in
theorem named1_any (r : Nat) (w : World) : Calls Try.prog 97 #[.int .i32 (r : Int)] w fun e w' => e = .returned (.bool (!(gd r))) ∧ w' = w := by
  have W0 : ∀ b, gd r = b → Calls Try.prog 97 #[.int .i32 (r : Int)] w fun e w' => e = .returned (.bool (!b)) ∧ w' = w := by
    intro b hb
    cases b with
    | true =>
      have hc : (65 ≤ r ∧ r ≤ 90) ∨ (48 ≤ r ∧ r ≤ 57) := by simpa [gd] using hb
      clear hb
      rcases hc with ⟨c1, c2⟩ | ⟨c1, c2⟩
      · have d1 : ¬ (r : Int) < 65 := by omega
        have d2 : ¬ (90 : Int) < (r : Int) := by omega
        go_enter Try.func97, Try.ntmps97
        go_wp2
        go_ret
        exact ⟨rfl, rfl⟩
      · have d1 : (r : Int) < 65 := by omega
        have d3 : ¬ (r : Int) < 48 := by omega
        have d4 : ¬ (57 : Int) < (r : Int) := by omega
        go_enter Try.func97, Try.ntmps97
        go_wp2
        go_ret
        exact ⟨rfl, rfl⟩
    | false =>
      have hc : r < 48 ∨ (57 < r ∧ r < 65) ∨ 90 < r := by simp [gd] at hb; omega
      clear hb
      rcases hc with c | ⟨c1, c2⟩ | c
      · have d1 : (r : Int) < 65 := by omega
        have d3 : (r : Int) < 48 := by omega
        go_enter Try.func97, Try.ntmps97
        go_wp2
        go_ret
        exact ⟨rfl, rfl⟩
      · have d1 : (r : Int) < 65 := by omega
        have d3 : ¬ (r : Int) < 48 := by omega
        have d4 : (57 : Int) < (r : Int) := by omega
        go_enter Try.func97, Try.ntmps97
        go_wp2
        go_ret
        exact ⟨rfl, rfl⟩
      · have d1 : ¬ (r : Int) < 65 := by omega
        have d2 : (90 : Int) < (r : Int) := by omega
        have d3 : ¬ (r : Int) < 48 := by omega
        have d4 : (57 : Int) < (r : Int) := by omega
        go_enter Try.func97, Try.ntmps97
        go_wp2
        go_ret
        exact ⟨rfl, rfl⟩
  exact W0 _ rfl

set_option maxHeartbeats 2000000 in
set_option maxRecDepth 1000000 in
theorem indexFunc_any (s : ByteArray) (w : World) : Calls Try.prog 111 #[.string s, .func (.func 97) #[] #[], .bool true] w fun e w' => ∃ I : Int, e = .returned (.int .i64 I) ∧ (0 ≤ I ↔ ¬ allGd s) ∧ Below w.heap.size w w' := by
  go_enter Try.func111, Try.ntmps111
  go_wp2
  go_loopg [] s.size (fun gf wx => ∃ pos : Nat, wx.heap[w.heap.size]? = some (.stringIter s pos) ∧ Below w.heap.size w wx ∧ Hid (∀ (i : Nat) (h : i < s.size), i < pos → gd (s[i]'h).toNat = true) ∧ s.size ≤ pos + gf)
  case atStart => exact ⟨0, World.iter_heap w s 0, (Below.refl _ w).alloc (Nat.le_refl _) _, fun i _ h => by omega, by omega⟩
  case round =>
    obtain ⟨pos, hit, hbw, HA, hfu⟩ := hrel
    by_cases hps : pos < s.size
    · obtain ⟨g', rfl⟩ : ∃ g', gk = g' + 1 := ⟨gk - 1, by omega⟩
      have hnx : ∀ ty, (Instr.next (.pointer (some ⟨w.heap.size, 0, none⟩)) true ty).run Try.prog wr = _ := fun ty => Lib.run_next_any_at wr w.heap.size s pos ty hit hps
      by_cases hb : gd (s[pos]'hps).toNat = true
      · have hd := decode_ascii s pos hps (gd_lt hb)
        rw [hd] at hnx
        obtain ⟨R, hR⟩ : ∃ R, (s[pos]'hps).toNat = R := ⟨_, rfl⟩
        have HA2 : Hid (∀ (i : Nat) (h : i < s.size), i < pos + 1 → gd (s[i]'h).toNat = true) := fun i h hi => by
          by_cases e : i = pos
          · subst e; exact hb
          · exact HA.out i h (by omega)
        simp only [hR] at hnx hb
        have HB := Lib.hid hb
        have hit2 := Lib.iterAt_heap wr w.heap.size s pos (pos + 1) hit
        have hbw2 := Lib.below_iterAt hbw (k := w.heap.size) (Nat.le_refl _) s (pos + 1)
        obtain ⟨W, hWd⟩ : ∃ W, wr.iterAt w.heap.size s (pos + 1) = W := ⟨_, rfl⟩
        rw [hWd] at hnx hit2 hbw2
        clear hb hd hR hWd
        go_wp2_with fail
        refine (named1_any R W).mono ?_
        rintro e W' ⟨rfl, rfl⟩
        rw [HB.out]
        go_wp2
        go_roundg g'
        case measure => omega
        case rel => exact ⟨pos + 1, hit2, hbw2, HA2, by omega⟩
      · obtain ⟨R, hR⟩ : ∃ R, (Utf8.decode s pos).1 = R := ⟨_, rfl⟩
        obtain ⟨K, hK⟩ : ∃ K, (Utf8.decode s pos).2 = K := ⟨_, rfl⟩
        have hbR : gd R = false := by
          rcases Nat.lt_or_ge (s[pos]'hps).toNat 128 with h | h
          · rw [decode_ascii s pos hps h] at hR
            simp only [] at hR
            rw [← hR]; simpa using hb
          · have := (decode_high s pos hps h).1
            exact gd_high (by omega)
        have HN : Hid (¬ allGd s) := fun h => hb (h pos hps)
        rw [hR, hK] at hnx
        have HB := Lib.hid hbR
        have hbw2 := Lib.below_iterAt hbw (k := w.heap.size) (Nat.le_refl _) s (pos + K)
        obtain ⟨W, hWd⟩ : ∃ W, wr.iterAt w.heap.size s (pos + K) = W := ⟨_, rfl⟩
        rw [hWd] at hnx hbw2
        clear hb hR hK hbR hWd
        go_wp2_with fail
        refine (named1_any R W).mono ?_
        rintro e W' ⟨rfl, rfl⟩
        rw [HB.out]
        go_wp2
        go_ret
        exact ⟨_, rfl, ⟨fun _ => HN.out, fun _ => by omega⟩, hbw2⟩
    · have hnx : ∀ ty, (Instr.next (.pointer (some ⟨w.heap.size, 0, none⟩)) true ty).run Try.prog wr = _ := fun ty => Lib.run_next_end_at wr w.heap.size s pos ty hit hps
      have HY : Hid (allGd s) := fun i h => HA.out i h (by omega)
      go_wp2
      go_ret
      exact ⟨_, rfl, ⟨fun h => by omega, fun h => absurd HY.out h⟩, hbw⟩
set_option maxHeartbeats 1000000 in
theorem containsFunc_any (s : ByteArray) (w : World) : Calls Try.prog 96 #[.string s, .func (.func 97) #[] #[]] w fun e w' => e = .returned (.bool (decide (¬ allGd s))) ∧ Below w.heap.size w w' := by
  have c2 := fun W => indexFunc_any s W
  have c1 : ∀ W, Calls Try.prog 106 #[.string s, .func (.func 97) #[] #[]] W fun e w' => ∃ I : Int, e = .returned (.int .i64 I) ∧ (0 ≤ I ↔ ¬ allGd s) ∧ Below W.heap.size W w' := fun W => by
    go_enter Try.func106, Try.ntmps106
    go_wp2_with fail
    refine (c2 W).mono ?_
    rintro e w' ⟨I, rfl, hI, hb⟩
    go_wp2
    go_ret
    exact ⟨I, rfl, hI, hb⟩
  clear c2
  go_enter Try.func96, Try.ntmps96
  go_wp2_with fail
  refine (c1 w).mono ?_
  rintro e w' ⟨I, rfl, hI, hb⟩
  go_wp2
  go_ret
  exact ⟨by simp, hb⟩
set_option maxHeartbeats 1000000 in
theorem named_any (s : ByteArray) (w : World) : Calls Try.prog 82 #[.string s] w fun e w' => e = .returned (.bool (decide (nameOk s))) ∧ Below w.heap.size w w' := by
  have c1 := Lib.hid (containsFunc_any s w)
  by_cases h4 : s.size = 4
  · have h4i : ((s.size : Int) == 4) = true := by rw [h4]; rfl
    obtain ⟨g, hg⟩ : ∃ g, decide (¬ allGd s) = g := ⟨_, rfl⟩
    have HG := Lib.hid hg
    have HE : Hid (decide (nameOk s) = !g) := by
      rw [Hid, ← HG.out]
      have e : nameOk s ↔ allGd s := ⟨fun h => h.2, fun h => ⟨h4, h⟩⟩
      by_cases q : allGd s
      · simp [q, e]
      · simp [q, e]
    clear hg h4
    go_enter Try.func82, Try.ntmps82
    go_wp2_with fail
    refine c1.out.mono ?_
    rintro e w' ⟨rfl, hb⟩
    rw [HG.out]
    go_wp2
    go_ret
    exact ⟨by rw [HE.out]; rfl, hb⟩
  · have h4i : ((s.size : Int) == 4) = false := by simp; omega
    have HE : Hid (decide (nameOk s) = false) := decide_eq_false (fun h : nameOk s => h4 h.1)
    clear h4 c1
    go_enter Try.func82, Try.ntmps82
    go_wp2
    go_ret
    exact ⟨by rw [HE.out]; rfl, Below.refl _ _⟩
set_option maxHeartbeats 2000000 in
theorem refNamed_any (s : ByteArray) (w : World) : Calls Try.prog 53 #[.string s] w fun e w' => e = .returned (.bool (decide (nameOk s))) ∧ w' = w := by
  by_cases h4 : s.size = 4
  case neg =>
    have h4i : ((s.size : Int) != 4) = true := by simp [bne]; omega
    have HE : Hid (decide (nameOk s) = false) := decide_eq_false (fun h : nameOk s => h4 h.1)
    clear h4
    go_enter Try.func53, Try.ntmps53
    go_wp2
    go_ret
    exact ⟨by rw [HE.out]; rfl, rfl⟩
  have h4i : ((s.size : Int) != 4) = false := by rw [h4]; rfl
  have HE4 := Lib.hid h4
  have hs4 : (s.size : Int) = 4 := by omega
  clear h4
  go_enter Try.func53, Try.ntmps53
  go_wp2
  go_loop [3] (fun i => ∃ k : Nat, k ≤ 4 ∧ i = .int .i64 k ∧ Hid (∀ (j : Nat) (h : j < s.size), j < k → gd (s[j]'h).toNat = true)) (fun i => 4 - (intOf i).toNat)
  case atStart => exact ⟨0, by omega, rfl, fun j _ h => by omega⟩
  case round =>
    obtain ⟨k, hk, rfl, HA⟩ := hrel
    by_cases hk4 : k < 4
    · have hki : (k : Int) < 4 := by omega
      have hks : k < s.size := by rw [HE4.out]; exact hk4
      obtain ⟨x, hx⟩ : ∃ x : Nat, (s[k]'hks).toNat = x := ⟨_, rfl⟩
      have HX := Lib.hid hx
      have hix : ∀ W, (Instr.index 9 (.string s) (.int .i64 (k : Int))).run Try.prog W = .ok (.int .u8 (x : Int)) W := fun W => by
        rw [run_index_string W 9 s .i64 (k : Int) Try.underlying9, dif_pos ⟨by omega, by omega⟩]
        simp only [Int.toNat_natCast, hx]
      by_cases hg : gd x = true
      · have HA2 : Hid (∀ (j : Nat) (h : j < s.size), j < k + 1 → gd (s[j]'h).toNat = true) := fun j h hj => by
          by_cases e : j = k
          · subst e; rw [HX.out]; exact hg
          · exact HA.out j h (by omega)
        have hc : (65 ≤ x ∧ x ≤ 90) ∨ (¬ (65 ≤ x ∧ x ≤ 90) ∧ 48 ≤ x ∧ x ≤ 57) := by simp [gd] at hg; omega
        clear hg hx
        rcases hc with ⟨c1, c2⟩ | ⟨c0, c1, c2⟩
        · have d1 : (65 : Int) ≤ (x : Int) := by omega
          have d2 : (x : Int) ≤ 90 := by omega
          go_wp2
          go_round
          case rel => exact ⟨k + 1, by omega, by go_num, HA2⟩
          case measure => simp [intOf]; omega
        · have d1 : ¬ (65 : Int) ≤ (x : Int) := by omega
          have d3 : (48 : Int) ≤ (x : Int) := by omega
          have d4 : (x : Int) ≤ 57 := by omega
          go_wp2
          go_round
          case rel => exact ⟨k + 1, by omega, by go_num, HA2⟩
          case measure => simp [intOf]; omega
      · have HN : Hid (decide (nameOk s) = false) := decide_eq_false (fun h : nameOk s => hg (by rw [← HX.out]; exact h.2 k hks))
        have hc : (x < 48) ∨ (57 < x ∧ x < 65) ∨ 90 < x := by simp [gd] at hg; omega
        clear hg hx
        rcases hc with c | ⟨c1, c2⟩ | c
        · have d1 : ¬ (65 : Int) ≤ (x : Int) := by omega
          have d2 : ¬ (48 : Int) ≤ (x : Int) := by omega
          go_wp2
          go_ret
          exact ⟨by rw [HN.out]; rfl, rfl⟩
        · have d1 : ¬ (65 : Int) ≤ (x : Int) := by omega
          have d2 : (48 : Int) ≤ (x : Int) := by omega
          have d3 : ¬ (x : Int) ≤ 57 := by omega
          go_wp2
          go_ret
          exact ⟨by rw [HN.out]; rfl, rfl⟩
        · have d1 : (65 : Int) ≤ (x : Int) := by omega
          have d2 : ¬ (x : Int) ≤ 90 := by omega
          have d3 : (48 : Int) ≤ (x : Int) := by omega
          have d4 : ¬ (x : Int) ≤ 57 := by omega
          go_wp2
          go_ret
          exact ⟨by rw [HN.out]; rfl, rfl⟩
    · obtain rfl : k = 4 := by omega
      have HY : Hid (decide (nameOk s) = true) := decide_eq_true ⟨HE4.out, fun j h => HA.out j h (by rw [← HE4.out]; exact h)⟩
      clear HA
      go_wp2
      go_ret
      exact ⟨by rw [HY.out]; rfl, rfl⟩
end Go.Proofs.Ytbjmojajhkhekaa
