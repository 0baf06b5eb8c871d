/- Interleaved mode: Ask, Serve, Take in one word each, as an exchange meets them. -/
import Derived.Test.YtfkckokaclkjnaaIlKG
import Derived.Test.YtfkckokaclkjnaaTape
namespace Go.Proofs.Ytfkckokaclkjnaa
open Go.RowKit

theorem ilAsk_all (k : Bool) (sent got : Int) (re ma oo rr t : Nat) (at_ : Int) (h1 : -1152921504606846976 ≤ at_) (h2 : at_ ≤ 1152921504606846976) (ht : ¬ t = 0) (hm : k = true → ¬ t = ma) (ho : oo = if k then re else 0) (hr : rr = if k then ma else 0) (w : World) :
    Calls Try.prog 6 #[.agg #[.bool false, .bool k, .int .u64 0, .int .i64 0, .int .i64 sent, .int .i64 got, .int .u64 re, .int .u64 ma], .int .u64 t, .int .i64 at_] w fun e w' =>
      e = .returned (.tuple #[.agg #[.bool true, .bool k, .int .u64 t, .int .i64 at_, .int .i64 sent, .int .i64 got, .int .u64 re, .int .u64 ma], .agg #[.int .i64 0, .int .i64 4, .int .i64 3, .int .i64 0, .int .i64 6, .int .i64 0, .int .u32 0, .int .u32 0, .int .u32 0, .int .u64 0, .int .u64 oo, .int .u64 rr, .int .u64 t], .int .i64 0]) ∧ Below w.heap.size w w' := by
  subst ho hr
  cases k with
  | false => exact ilAsk_fresh false 0 0 sent got re ma t at_ h1 h2 ht w
  | true => exact ilAsk_known false 0 0 sent got re ma t at_ h1 h2 ht (hm rfl) w
theorem find_head (a b : Nat) (r : List (Nat × Nat)) : findE ((a, b) :: r) a = 0 := by simp [findE, findFrom, rcvAt]
theorem trm_head (a b : Nat) (r : List (Nat × Nat)) : trmAt ((a, b) :: r) 0 = b := by simp [trmAt]
theorem find_new_from (l : List (Nat × Nat)) (S x : Nat) (h : ∀ e ∈ l, e.1 ≤ S) (hx : S < x) : ∀ k j, j + k ≤ l.length → findFrom l x k j = -1
  | 0, _, _ => rfl
  | k + 1, j, hj => by
    have hm : l[j]'(by omega) ∈ l := List.getElem_mem _
    have h1 := h _ hm
    have hne : ¬ rcvAt l j = x := by
      unfold rcvAt
      rw [show l.getD j (0, 0) = l[j]'(by omega) by simp [List.getD, show j < l.length by omega]]
      omega
    rw [findFrom_no hne]
    exact find_new_from l S x h hx k (j + 1) (by omega)
theorem find_new (l : List (Nat × Nat)) (S x : Nat) (h : ∀ e ∈ l, e.1 ≤ S) (hx : S < x) : findE l x = -1 := find_new_from l S x h hx _ _ (by omega)
theorem serve_tells (A : Option Addr) (n c : Nat) (l : List (Nat × Nat)) (oo rr t b2 b3 rc tx : Nat) (w : World) (hv : Echs w A n c l) (hn : n ≤ 7) (hr : findE l rc = -1) (hl : (n = 0 ∧ l = []) ∨ (0 < n ∧ oo = b2 ∧ ¬ b2 = 0 ∧ ∃ r, l = (b2, b3) :: r)) (kp : Bool) (hkp : kp = decide (0 < n)) :
    Calls Try.prog 8 #[.slice A n c, .agg #[.int .i64 0, .int .i64 4, .int .i64 3, .int .i64 0, .int .i64 6, .int .i64 0, .int .u32 0, .int .u32 0, .int .u32 0, .int .u64 0, .int .u64 oo, .int .u64 rr, .int .u64 t], .int .i64 2, .int .u64 rc, .int .u64 tx] w fun e w' =>
      ∃ (A' : Option Addr) (c' oT tT : Nat), e = .returned (.tuple #[.slice A' (1 + n) c', .agg #[.int .i64 0, .int .i64 4, .int .i64 4, .int .i64 2, .int .i64 6, .int .i64 (-20), .int .u32 0, .int .u32 0, .int .u32 0, .int .u64 0, .int .u64 oT, .int .u64 rc, .int .u64 tT], .bool kp, .int .i64 0]) ∧ Echs w' A' (1 + n) c' ((rc, tx) :: l) ∧ (∀ x, A' = some x → w.heap.size ≤ x.block) ∧ ((kp = false ∧ oT = t ∧ tT = tx) ∨ (kp = true ∧ oT = rr ∧ tT = b3)) ∧ Below w.heap.size w w' := by
  have hlen := hv.len
  have ht : ((rc, tx) :: l).take 8 = (rc, tx) :: l := List.take_of_length_le (by simp; omega)
  rcases hl with ⟨rfl, rfl⟩ | ⟨h0, rfl, hb, r, rfl⟩
  · have hk0 : kp = false := by simp [hkp]
    subst hk0
    by_cases ho : oo = 0
    · refine (serve_zero_lt A 0 c [] 0 4 3 0 6 0 0 0 0 0 oo rr t 2 rc tx w hv (by decide) rfl (by decide) (by decide) hr hn ho).mono ?_
      rintro e w' ⟨A', c', rfl, h1, h2, h3⟩
      rw [ht] at h1
      exact ⟨A', c', t, tx, rfl, h1, h2, .inl ⟨rfl, rfl, rfl⟩, h3⟩
    · refine (serve_miss_lt A 0 c [] 0 4 3 0 6 0 0 0 0 0 oo rr t 2 rc tx w hv (by decide) rfl (by decide) (by decide) hr hn ho rfl).mono ?_
      rintro e w' ⟨A', c', rfl, h1, h2, h3⟩
      rw [ht] at h1
      exact ⟨A', c', t, tx, rfl, h1, h2, .inl ⟨rfl, rfl, rfl⟩, h3⟩
  · have hk0 : kp = true := by rw [hkp]; exact decide_eq_true h0
    subst hk0
    refine (serve_hit_lt A n c _ 0 4 3 0 6 0 0 0 0 0 oo rr t 2 rc tx w hv (by decide) rfl (by decide) (by decide) hr hn hb 0 h0 (find_head _ _ _)).mono ?_
    rintro e w' ⟨A', c', rfl, h1, h2, h3⟩
    rw [ht] at h1
    rw [trm_head]
    exact ⟨A', c', rr, b3, rfl, h1, h2, .inr ⟨rfl, rfl, rfl⟩, h3⟩
theorem take_tells (k kp : Bool) (t : Nat) (asked sent got : Int) (re ma oT rc tT tx b3 : Nat) (at_ : Int) (v1 : -1152921504606846976 ≤ at_) (v2 : at_ ≤ 1152921504606846976) (ha : asked ≤ at_) (h : (kp = false ∧ oT = t ∧ tT = tx) ∨ (kp = true ∧ oT = ma ∧ tT = b3)) (hk : kp = true → k = true ∧ ¬ ma = t) (w : World) :
    Calls Try.prog 9 #[.agg #[.bool true, .bool k, .int .u64 t, .int .i64 asked, .int .i64 sent, .int .i64 got, .int .u64 re, .int .u64 ma], .agg #[.int .i64 0, .int .i64 4, .int .i64 4, .int .i64 2, .int .i64 6, .int .i64 (-20), .int .u32 0, .int .u32 0, .int .u32 0, .int .u64 0, .int .u64 oT, .int .u64 rc, .int .u64 tT], .int .i64 at_] w fun e w' =>
      ∃ (r1 r4 : Int) (r2 r3 : Nat), e = .returned (.tuple #[.agg #[.bool false, .bool true, .int .u64 0, .int .i64 0, .int .i64 asked, .int .i64 at_, .int .u64 rc, .int .u64 t], .agg #[.int .i64 r1, .int .i64 r4, .int .u64 r2, .int .u64 r3, .bool kp], .int .i64 0]) ∧ ((kp = false ∧ r1 = asked ∧ r4 = at_ ∧ r2 = rc ∧ r3 = tx) ∨ (kp = true ∧ r1 = sent ∧ r4 = got ∧ r2 = re ∧ r3 = b3)) ∧ Below w.heap.size w w' := by
  rcases h with ⟨rfl, rfl, rfl⟩ | ⟨rfl, rfl, rfl⟩
  · refine (ilTake_basic k oT asked sent got re ma 0 4 4 2 6 (-20) 0 0 0 0 oT rc tT at_ v1 v2 ha rfl rfl w).mono ?_
    rintro e w' ⟨rfl, hb⟩
    exact ⟨_, _, _, _, rfl, .inl ⟨rfl, rfl, rfl, rfl, rfl⟩, hb⟩
  · obtain ⟨rfl, hne⟩ := hk rfl
    refine (ilTake_inter t asked sent got re oT 0 4 4 2 6 (-20) 0 0 0 0 oT rc tT at_ v1 v2 ha rfl hne rfl w).mono ?_
    rintro e w' ⟨rfl, hb⟩
    exact ⟨_, _, _, _, rfl, .inr ⟨rfl, rfl, rfl, rfl, rfl⟩, hb⟩
theorem rd_blt {w : World} {size n c : Nat} {A : Option Addr} {xs : List Value} (h : Rd w size A n c xs) (hx : 0 < xs.length) : ∀ x, A = some x → x.block < w.heap.size := by
  intro x hA
  obtain ⟨b, off, e, hc⟩ := h.2.2.2 0 _ (List.getElem?_eq_getElem hx)
  rw [hA] at e
  injection e with e
  subst e
  exact World.block_lt_of_cell? w _ hc
theorem Rd.grown {w w' : World} {size n c : Nat} {A : Option Addr} {xs : List Value} {row : Option Nat} (h : Rd w size A n c xs) (hg : w.grownBy w' row) (hne : ∀ x, A = some x → row ≠ some x.block) : Rd w' size A n c xs :=
  ⟨h.1, h.2.1, h.2.2.1, fun i u hu => by
    obtain ⟨b, off, e, hc⟩ := h.2.2.2 i u hu
    have hlt : b < w.heap.size := World.block_lt_of_cell? w _ hc
    have hbl := hg.block b hlt (fun e' => hne _ e e'.symm)
    exact ⟨b, off, e, (World.cell?_of_block (a := ⟨b, off + i, none⟩) hbl).trans hc⟩⟩
/-- What the rounds keep of the plain numbers. -/
def TSt (j : Nat) (k : Bool) (b2 b3 ma C S : Nat) (l : List (Nat × Nat)) (nn : Nat) : Prop :=
  ma = j * 1000003 ∧ C ≤ 50 * j ∧ 1000 ≤ S ∧ S ≤ 1000 + 30 * j ∧ nn = l.length ∧ nn ≤ j ∧ (∀ e ∈ l, e.1 ≤ S) ∧ k = decide (0 < j) ∧ (0 < j → ¬ b2 = 0) ∧ (l = [] ∨ ∃ r, l = (b2, b3) :: r)
theorem TSt.nil {j : Nat} {k : Bool} {b2 b3 ma C S : Nat} {l : List (Nat × Nat)} {nn : Nat} (h : TSt j k b2 b3 ma C S l nn) : TSt j k b2 b3 ma C S [] 0 := by
  obtain ⟨h1, h2, h3, h4, h5, h6, h7, h8, h9, h10⟩ := h
  exact ⟨h1, h2, h3, h4, rfl, Nat.zero_le _, fun e he => (by cases he), h8, h9, .inl rfl⟩
theorem TSt.case {j : Nat} {k : Bool} {b2 b3 ma C S oo : Nat} {l : List (Nat × Nat)} {nn : Nat} (h : TSt j k b2 b3 ma C S l nn) (ho : oo = if k then b2 else 0) : (nn = 0 ∧ l = []) ∨ (0 < nn ∧ oo = b2 ∧ ¬ b2 = 0 ∧ ∃ r, l = (b2, b3) :: r) := by
  obtain ⟨h1, h2, h3, h4, h5, h6, h7, h8, h9, h10⟩ := h
  rcases h10 with rfl | ⟨r, rfl⟩
  · exact .inl ⟨by simpa using h5, rfl⟩
  · have h0 : 0 < nn := by rw [h5]; simp
    have hj : 0 < j := by omega
    refine .inr ⟨h0, ?_, h9 hj, r, rfl⟩
    rw [ho, h8, if_pos (by simpa using hj)]
theorem TSt.next {j : Nat} {k : Bool} {b2 b3 ma C S : Nat} {l : List (Nat × Nat)} {nn rc tx C' S' t : Nat} (h : TSt j k b2 b3 ma C S l nn) (hrc : S < rc) (hrc2 : rc ≤ S') (hS : S' ≤ S + 30) (hC : C' ≤ C + 50) (ht : t = (j + 1) * 1000003) : TSt (j + 1) true rc tx t C' S' ((rc, tx) :: l) (1 + nn) := by
  obtain ⟨h1, h2, h3, h4, h5, h6, h7, h8, h9, h10⟩ := h
  refine ⟨ht, by omega, by omega, by omega, by simp; omega, by omega, fun e he => ?_, by simp, fun _ => by omega, .inr ⟨l, rfl⟩⟩
  rcases List.mem_cons.1 he with rfl | he
  · exact hrc2
  · have := h7 e he; omega
end Go.Proofs.Ytfkckokaclkjnaa
