import Derived.Shelf.Abstract
import Derived.Shelf.RegionOpen
import Derived.OwnWalkIn
import Derived.TacticsInMore
import Derived.LoopNIn
import Derived.LoopIn
import Derived.Test.YtiemnacoebkalaaGreatTaV01
import Derived.Test.YtiemnacoebkalaaGreatTaV21
set_option linter.all false
set_option maxRecDepth 100000
set_option maxHeartbeats 4000000
namespace Go.Proofs.YtiemnacoebkalaaGreat
open Go Go.RowKit Go.Shelf
attribute [local go_sem] Oper.semAt_some
def KpB (B1 B2 : Nat) (W W' : World) : Prop := W'.heap[B1]? = W.heap[B1]? ∧ W'.heap[B2]? = W.heap[B2]?
theorem KpB.trans {B1 B2 : Nat} {X Y Z : World} (h : KpB B1 B2 X Y) (k : KpB B1 B2 Y Z) : KpB B1 B2 X Z := ⟨k.1.trans h.1, k.2.trans h.2⟩
def chk (g off n k : Nat) {m : Nat} (x : Fin m) : Array Value := #[.slice (some ⟨g, off + x.1 * k, none⟩) (min k (n - x.1 * k)) (min k (n - x.1 * k))]
theorem fin_take {m i : Nat} (h : i < m) : (List.finRange m).take (i + 1) = (List.finRange m).take i ++ [⟨i, h⟩] := by
 rw [List.take_succ_eq_append_getElem (by simpa using h)]; simp
theorem chunk1_in (d : Nat) (hd : 1 <= d) (Bz l b1 b2 g off n c k m : Nat) (hk : 0 < k) (hk2 : k <= 1000) (hn : n <= 1000000) (hnc : n <= c) (hc : c <= 9223372036854775807) (hm : ∀ i, i < m ↔ i * k < n) (J Jx : List (Fin m) -> World -> Prop) (hJ : AbidesFrom Bz J)
    (hY : ∀ pre x W, J pre W -> pre.length < m -> YieldAt Fence.wide (d - 1) Tryz.prog l (chk g off n k x) W fun e W' =>
     (e = .returned (.bool true) ∧ J (pre ++ [x]) W' ∧ KpB b1 b2 W W') ∨ (e = .returned (.bool false) ∧ Jx (pre ++ [x]) W'))
    (W : World) (h1 : Blk W b1 27 #[.slice (some ⟨g, off, none⟩) n c]) (h2 : Blk W b2 3 #[.int .i64 k]) (h0 : J [] W) :
    CallsIn Fence.wide d Tryz.prog 157 #[.func (.yield l) #[] #[], .pointer (some ⟨b1, 0, none⟩), .pointer (some ⟨b2, 0, none⟩)] W fun e W' => (∃ v, e = .returned v) ∧
      ((∃ ys, ys = List.finRange m ∧ J ys W') ∨ (∃ pre, True ∧ Jx pre W')) := by
 have HY := qq hY; have HJ := qq hJ; have HM := qq hm; have HB1 := qq h1; have HB2 := qq h2; clear hY hm h1 h2 hJ; refine callsIn_of_wp Tryz.func157 rfl trivial ?_ rfl; simp only [Tryz.ntmps157, List.size_toArray, List.length_cons, List.length_nil, Nat.reduceAdd, Nat.reduceSub, Array.replicate_succ, Array.replicate_zero, List.push_toArray, List.append_toArray, List.nil_append, List.cons_append]
 gi_wp2
 gi_loopw [4] (fun s wr => ∃ i q : Nat, i <= m ∧ Hid (q = i * k) ∧ s = .int .i64 q ∧ J ((List.finRange m).take i) wr ∧ KpB b1 b2 W wr) (fun s _ => n - (intOf s).toNat)
 case atStart => exact ⟨0, 0, Nat.zero_le _, by simp [Hid], rfl, h0, rfl, rfl⟩
 case round =>
  obtain ⟨i, q, him, HQ, rfl, hJs, hkp⟩ := hrel; have B1 := qq (HB1.out.same hkp.1); have B2 := qq (HB2.out.same hkp.2); have B1' := B1; have B2' := B2; have c1 := B1.out.cell 0; have c2 := B2.out.cell 0; have HKP := qq hkp; clear hkp
  by_cases hlt : i < m
  · have hqn : q < n := by rw [HQ.out]; exact (HM.out i).1 hlt
    have qI : (q : Int) < (n : Int) := by omega
    obtain ⟨e, he⟩ : ∃ e, min k (n - q) = e := ⟨_, rfl⟩; have HE := qq he; have e1 : e <= n - q := by omega
    have e2 : 0 < e := by omega
    have heI : (if n - q < k then ((n - q : Nat) : Int) else (k : Int)) = (e : Int) := by split <;> omega
    clear he; have hch : chk g off n k (⟨i, hlt⟩ : Fin m) = #[.slice (some ⟨g, off + q, none⟩) e e] := by
     unfold chk
     show #[Value.slice (some ⟨g, off + i * k, none⟩) (min k (n - i * k)) (min k (n - i * k))] = _
     rw [<- HQ.out, HE.out]
    have HCH := qq hch; clear hch; have q1 : ¬ c = q := by omega
    have q2 : ¬ c < q := by omega
    have q3 : ¬ n < q := by omega
    have qI2 : (q : Int) <= (n : Int) := by omega
    gi_wp2_with fail
    refine mono_startIn (.inl rfl) (by kernel_rfl) [pv (.int .i64 k), pv (.slice (some ⟨g, off, none⟩) n c), pv (.int .i64 q), pv (.slice (some ⟨g, off + q, none⟩) (n - q : Nat) (c - q)), pv (.int .i64 ((n - q : Nat) : Int)), pv (.int .i64 ((e : Nat) : Int)), pv (.int .i64 ((e : Nat) : Int))] (by kernel_rfl) (by kernel_rfl) (fun OPS AV AL K w0 hO hA hL hK hb0 hz => ?_); refine step_pg (d := (some 13)) (hO.out 0 _ rfl) rfl rfl (fun wq hw gt => ?_) ?_
    · have hx : Below wr.heap.size wr wq := hb0.trans (hw.mono hb0.size); have c2 := (B2.out.stays hx).cell 0; clear gt hO hA hL hK
      go_simp; try first | with_reducible rfl | assumption
    try simp only [qp, qn]
    refine step_pg (d := (some 14)) (hO.out 1 _ rfl) rfl rfl (fun wq hw gt => ?_) ?_
    · have hx : Below wr.heap.size wr wq := hb0.trans (hw.mono hb0.size); have c1 := (B1.out.stays hx).cell 0; clear gt hO hA hL hK
      go_simp; try first | with_reducible rfl | assumption
    try simp only [qp, qn]
    refine step_pv (d := (some 15)) (hO.out 2 _ rfl) rfl rfl (fun wq hw => ?_) ?_
    · clear hO hA hL hK
      go_simp; try first | with_reducible rfl | assumption
    try simp only [qp, qn]
    refine step_pv (d := (some 16)) (hO.out 3 _ rfl) rfl rfl (fun wq hw => ?_) ?_
    · clear hO hA hL hK
      go_simp; try first | with_reducible rfl | assumption
    try simp only [qp, qn]
    refine step_pv (d := (some 17)) (hO.out 4 _ rfl) rfl rfl (fun wq hw => ?_) ?_
    · clear hO hA hL hK
      go_simp; try first | with_reducible rfl | assumption
    try simp only [qp, qn]
    refine step_pv (d := (some 18)) (hO.out 5 _ rfl) rfl rfl (fun wq hw => ?_) ?_
    · clear hO hA hL hK
      go_simp; try first | with_reducible rfl | assumption
    try simp only [qp, qn]
    refine step_pv (d := (some 5)) (hO.out 6 _ rfl) rfl rfl (fun wq hw => ?_) ?_
    · clear hO hA hL hK
      go_simp; try first | with_reducible rfl | assumption
    try simp only [qp, qn]
    refine fun wq hw gt => hK.out _ _ ?_
    have hx : Below wr.heap.size wr wq := hb0.trans (hw.mono hb0.size); clear gt hO hA hL hK; refine wpAnyIn_done (by kernel_rfl) ?_ _; have hJq := HJ.out _ wr wq none hJs (grown_of_below hx none) (fun r e => by cases e); obtain ⟨fn, tmps, assign, body, hy, hR⟩ := HY.out _ ⟨i, hlt⟩ wq hJq (by simp; omega); rw [HCH.out] at hy; have B1 := qs B1 hx; have B2 := qs B2 hx; have c1 := B1.out.cell 0; have c2 := B2.out.cell 0; have HKP := qq (KpB.trans HKP.out (Z := wq) ⟨B1.out.trans (B1'.out).symm, B2.out.trans (B2'.out).symm⟩); obtain ⟨u, hu⟩ : ∃ u, q + e = u := ⟨_, rfl⟩; have q4 : ¬ c < u := by omega
    have q5 : ¬ u < q := by omega
    have q6 : q <= u := by omega
    have q7 : u <= n := by omega
    have qe : u - q = e := by omega
    have qI3 : (q : Int) + (e : Int) = (u : Int) := by omega
    have q8 : ¬ u = q := by omega
    clear hu e1 e2; have i0 : (0 : Int) <= (q : Int) := by omega
    clear hx hw hz hb0 heI
    gi_wp2
    refine hR.mono ?_; rintro e' W3 (⟨rfl, hJ3, hk3⟩ | ⟨rfl, hJx3⟩)
    · have B1 := qq (B1.out.same hk3.1); have B2 := qq (B2.out.same hk3.2); have HKP := qq (KpB.trans HKP.out hk3); have c1 := B1.out.cell 0; have c2 := B2.out.cell 0; have HJ3 : Hid (J ((List.finRange m).take (i + 1)) W3) := by rw [fin_take hlt]; exact hJ3
      obtain ⟨u2, hu2⟩ : ∃ u2, q + k = u2 := ⟨_, rfl⟩; have qI4 : (q : Int) + (k : Int) = (u2 : Int) := by omega
      have HU : Hid (u2 = (i + 1) * k) := by unfold Hid; rw [Nat.add_mul, Nat.one_mul, <- HQ.out, hu2]
      have qu2 : q < u2 := by omega
      have u2b : u2 <= 1002000 := by omega
      clear hu2 hk3 hJ3
      gi_wp2
      go_roundw
      case rel => exact ⟨i + 1, u2, by omega, HU, rfl, HJ3, HKP.out⟩
      case measure => simp [intOf]; omega
    · gi_wp2
      refine bodyPost_ret (results_none rfl _ _ _) rfl ?_; exact ⟨⟨_, rfl⟩, .inr ⟨_, trivial, hJx3⟩⟩
  · obtain rfl : i = m := by omega
    have hqn : ¬ q < n := by rw [HQ.out]; exact fun h => hlt ((HM.out i).2 h)
    have qI : ¬ (q : Int) < (n : Int) := by omega
    gi_wp2
    go_end0
    have hJz : J (List.finRange i) wr := by rw [List.take_of_length_le (by simp)] at hJs; exact hJs
    exact ⟨⟨_, rfl⟩, .inl (by first | exact hJz | exact ⟨_, rfl, hJz⟩)⟩
/-- No byte: no round. -/
theorem chunk1_nil_in (d l b1 b2 c : Nat) (A : Option Addr) (J : List (Fin 0) -> World -> Prop) (W : World) (h1 : Blk W b1 27 #[.slice A 0 c]) (h0 : J [] W) :
    CallsIn Fence.wide d Tryz.prog 157 #[.func (.yield l) #[] #[], .pointer (some ⟨b1, 0, none⟩), .pointer (some ⟨b2, 0, none⟩)] W fun e W' => (∃ v, e = .returned v) ∧ J [] W' := by
 have c1 := h1.cell 0; refine callsIn_of_wp Tryz.func157 rfl trivial ?_ rfl; simp only [Tryz.ntmps157, List.size_toArray, List.length_cons, List.length_nil, Nat.reduceAdd, Nat.reduceSub, Array.replicate_succ, Array.replicate_zero, List.push_toArray, List.append_toArray, List.nil_append, List.cons_append]
 gi_wp2
 gi_loopw [4] (fun i wr => i = .int .i64 0 ∧ J [] wr ∧ wr = W) (fun _ _ => 0)
 case atStart => exact ⟨rfl, h0, rfl⟩
 case round =>
  obtain ⟨rfl, hJs, rfl⟩ := hrel
  gi_wp2
  go_end0
  exact ⟨⟨_, rfl⟩, hJs⟩
theorem chunk_stops (d : Nat) (hd : 1 <= d) (b1 b2 g n c k m : Nat) (A : Option Addr) (hA : 0 < n -> A = some ⟨g, 0, none⟩) (hk : 0 < k) (hk2 : k <= 1000) (hn : n <= 1000000) (hnc : n <= c) (hc : c <= 9223372036854775807) (hm : ∀ i, i < m ↔ i * k < n) (w : World)
    (h1 : Blk w b1 27 #[.slice A n c]) (h2 : Blk w b2 3 #[.int .i64 k]) :
    SeqStopsK Fence.wide d Tryz.prog 157 #[.pointer (some ⟨b1, 0, none⟩), .pointer (some ⟨b2, 0, none⟩)] (chk g 0 n k (m := m)) (KpB b1 b2) (fun ys => ys = List.finRange m) (fun _ => True) m w := fun l J Jx W hW hJ hJx hY h0 => by
 by_cases hn0 : 0 < n
 · rw [hA hn0] at h1; exact chunk1_in d hd _ l b1 b2 g 0 n c k m hk hk2 hn hnc hc hm J Jx hJ hY W (h1.stays hW) (h2.stays hW) h0
 · obtain rfl : n = 0 := by omega
   obtain rfl : m = 0 := by
    rcases Nat.eq_zero_or_pos m with h | h
    · exact h
    · have := (hm 0).1 h; omega
   exact (chunk1_nil_in d l b1 b2 c A J W (h1.stays hW) h0).mono fun e W' h => ⟨h.1, .inl ⟨[], rfl, h.2⟩⟩
theorem chunk_any (A : Option Addr) (n c k : Nat) (hk : 0 < k) (w : World) : Calls Tryz.prog 146 #[.slice A n c, .int .i64 k] w fun e w' => ∃ b1 b2, e = .returned (.func (.func 157) #[] #[.pointer (some ⟨b1, 0, none⟩), .pointer (some ⟨b2, 0, none⟩)]) ∧
    w.heap.size <= b1 ∧ w.heap.size <= b2 ∧ Blk w' b1 27 #[.slice A n c] ∧ Blk w' b2 3 #[.int .i64 k] ∧ Below w.heap.size w w' := by
  have k1 : ¬ (k : Int) < 1 := by omega
  go_enter Tryz.func146, Tryz.ntmps146
  go_wp2; go_ret; exact ⟨_, _, rfl, Nat.le_refl _, Nat.le_succ _, blk_new2_0 _ _ _ _ _, blk_new2_1 _ _ _ _ _, below_alloc2 _ _ _⟩
end Go.Proofs.YtiemnacoebkalaaGreat
