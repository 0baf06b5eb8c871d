/- The reference's walk over extension fields; its Decode and Places. -/
import Derived.Test.YtofadjcphaehcaaExtE
import Derived.Test.YtofadjcphaehcaaExtC
namespace Go.Proofs.Ytofadjcphaehcaa
open Go.RowKit

/-- The cells vs are those of the fields xs, whose bytes lie in neither block. -/
def Items2 (w : World) (b1 b2 : Option Nat) (vs : List Value) (xs : List (Int × List UInt8)) : Prop :=
  vs.length = xs.length * 2 ∧ ∀ (i : Nat) (x : Int × List UInt8), xs[i]? = some x → ∃ A n c, vs[i * 2]? = some (.int .i64 x.1) ∧ vs[i * 2 + 1]? = some (.slice A n c) ∧ Bytes w A n c x.2 ∧ Off A n b1 ∧ Off A n b2
theorem Items2.stays {w w' : World} {b1 b2 : Option Nat} {vs : List Value} {xs : List (Int × List UInt8)} (h : Items2 w b1 b2 vs xs) (hb : Below w.heap.size w w') : Items2 w' b1 b2 vs xs :=
  ⟨h.1, fun i x hx => by obtain ⟨A, n, c, h1, h2, h3, h4, h5⟩ := h.2 i x hx; exact ⟨A, n, c, h1, h2, h3.stays hb, h4, h5⟩⟩
theorem off_grew {w w' : World} {b b' : Option Nat} {A : Option Addr} {n c : Nat} {l : List UInt8} (h : Bytes w A n c l) (ho : Off A n b) (hb : b' = b ∨ b' = some w.heap.size) : Off A n b' := by
  intro a ha hn
  rcases hb with rfl | rfl
  · exact ho a ha hn
  · intro e
    injection e with e
    have := h.lt hn a ha
    omega
theorem Items2.grew1 {w w' : World} {b1 b1' b2 : Option Nat} {vs : List Value} {xs : List (Int × List UInt8)} (h : Items2 w b1 b2 vs xs) (hg : w.grownBy w' b1) (hb : b1' = b1 ∨ b1' = some w.heap.size) : Items2 w' b1' b2 vs xs :=
  ⟨h.1, fun i x hx => by obtain ⟨A, n, c, h1, h2, h3, h4, h5⟩ := h.2 i x hx; exact ⟨A, n, c, h1, h2, h3.kept hg h4, off_grew (w' := w') h3 h4 hb, h5⟩⟩
theorem Items2.grew2 {w w' : World} {b1 b2 b2' : Option Nat} {vs : List Value} {xs : List (Int × List UInt8)} (h : Items2 w b1 b2 vs xs) (hg : w.grownBy w' b2) (hb : b2' = b2 ∨ b2' = some w.heap.size) : Items2 w' b1 b2' vs xs :=
  ⟨h.1, fun i x hx => by obtain ⟨A, n, c, h1, h2, h3, h4, h5⟩ := h.2 i x hx; exact ⟨A, n, c, h1, h2, h3.kept hg h5, h4, off_grew (w' := w') h3 h5 hb⟩⟩
theorem Items2.snoc {w : World} {b1 b2 : Option Nat} {vs : List Value} {xs : List (Int × List UInt8)} (h : Items2 w b1 b2 vs xs) (x : Int × List UInt8) {A : Option Addr} {n c : Nat} (hb : Bytes w A n c x.2) (h1 : Off A n b1) (h2 : Off A n b2) : Items2 w b1 b2 (vs ++ [.int .i64 x.1, .slice A n c]) (xs ++ [x]) := by
  refine ⟨by have := h.1; simp; omega, fun i y hy => ?_⟩
  have hl := h.1
  by_cases hi : i < xs.length
  · rw [List.getElem?_append_left hi] at hy
    obtain ⟨A', n', c', e1, e2, e3⟩ := h.2 i y hy
    exact ⟨A', n', c', by rw [List.getElem?_append_left (by omega)]; exact e1, by rw [List.getElem?_append_left (by omega)]; exact e2, e3⟩
  · rw [List.getElem?_append_right (by omega)] at hy
    have hi0 : i = xs.length := by
      rcases Nat.lt_or_ge (i - xs.length) 1 with h | h
      · omega
      · rw [List.getElem?_eq_none (by simpa using h)] at hy; cases hy
    subst hi0
    simp at hy
    subst hy
    exact ⟨A, n, c, by rw [← hl, List.getElem?_append_right (by omega)]; simp, by rw [← hl, List.getElem?_append_right (by omega)]; simp, hb, h1, h2⟩
theorem own_ne2 {w : World} {B e1 e2 s1 s2 n1 n2 : Nat} {v1 v2 : Value} {xs ys : List Value} (h1 : w.ownsRow B e1 s1 v1 n1 xs) (h2 : w.ownsRow B e2 s2 v2 n2 ys) (hne : e1 ≠ e2) : v1.ownBlock = none ∨ v1.ownBlock ≠ v2.ownBlock := by
  rcases h1.2 with ⟨rfl, _⟩ | ⟨g, cap, cur, rfl, _, hg, _⟩
  · exact .inl rfl
  · right
    intro h
    rcases h2.2 with ⟨rfl, _⟩ | ⟨g2, cap2, cur2, rfl, _, hg2, _⟩
    · simp [Value.ownBlock] at h
    · have hgo : g = g2 := by simpa [Value.ownBlock] using h
      subst hgo
      have h3 := hg.symm.trans hg2
      simp only [Option.some.injEq, Obj.cells.injEq] at h3
      exact hne h3.2.1
/-- Two rows of the call's own: fields, and numbers. -/
def TwoRows (w : World) (B : Nat) (AO : Option Addr) (k co : Nat) (AP : Option Addr) (k2 cp : Nat) (fs : List (Int × List UInt8)) (ps : List Nat) : Prop :=
  ∃ vs, w.ownsRow B 38 2 (.slice AO k co) k vs ∧ Items2 w (Value.slice AO k co).ownBlock (Value.slice AP k2 cp).ownBlock vs fs ∧ IntsA w B AP k2 cp ps
section
variable {w w' : World} {B k co k2 cp : Nat} {AO AP : Option Addr} {fs : List (Int × List UInt8)} {ps : List Nat}
theorem TwoRows.nil (w : World) (B : Nat) : TwoRows w B none 0 0 none 0 0 [] [] := ⟨[], own_nil _ _ _ _, ⟨rfl, fun i x h => by simp at h⟩, own_nil _ _ _ _⟩
theorem TwoRows.stays (h : TwoRows w B AO k co AP k2 cp fs ps) (hb : Below w.heap.size w w') : TwoRows w' B AO k co AP k2 cp fs ps := by
  obtain ⟨vs, h1, h2, h3⟩ := h
  exact ⟨vs, own_below h1 hb, h2.stays hb, own_below h3 hb⟩
theorem TwoRows.lt1 (h : TwoRows w B AO k co AP k2 cp fs ps) : ∀ j, (Value.slice AO k co).ownBlock = some j → j < w.heap.size := by obtain ⟨vs, h1, h2, h3⟩ := h; exact fun j hj => (h1.lt j hj).2
theorem TwoRows.lt2 (h : TwoRows w B AO k co AP k2 cp fs ps) : ∀ j, (Value.slice AP k2 cp).ownBlock = some j → j < w.heap.size := by obtain ⟨vs, h1, h2, h3⟩ := h; exact fun j hj => (World.ownsRow.lt h3 j hj).2
theorem TwoRows.flds (h : TwoRows w B AO k co AP k2 cp fs ps) : FldL w AO k co fs := by
  obtain ⟨vs, h1, h2, _⟩ := h
  have hr := own_rd h1
  refine ⟨vs, hr, by have := hr.1; have := h2.1; omega, fun i f hf => ?_⟩
  obtain ⟨A, n, c, e1, e2, e3, _⟩ := h2.2 i f hf
  exact ⟨A, n, c, e1, e2, e3⟩
theorem TwoRows.ints (h : TwoRows w B AO k co AP k2 cp fs ps) : IntsL w AP k2 cp ps := by obtain ⟨vs, _, _, h3⟩ := h; exact IntsA.rd h3
theorem TwoRows.caps (h : TwoRows w B AO k co AP k2 cp fs ps) : k ≤ co ∧ co ≤ 9223372036854775807 ∧ k2 ≤ cp ∧ cp ≤ 9223372036854775807 := by
  obtain ⟨vs, h1, _, h3⟩ := h
  have r1 := own_rd h1
  have r3 := own_rd h3
  have a := r1.2.2.1
  have b := r3.2.2.1
  unfold maxLen at a b
  exact ⟨r1.2.1, by omega, r3.2.1, by omega⟩
theorem TwoRows.item (h : TwoRows w B AO k co AP k2 cp fs ps) {gf : Nat} {t : Int} {A : Option Addr} {n c : Nat} {d : List UInt8} (hB : Blk w gf 38 #[.int .i64 t, .slice A n c]) (hd : Bytes w A n c d) (o1 : Off A n (Value.slice AO k co).ownBlock) (o2 : Off A n (Value.slice AP k2 cp).ownBlock) (hk : k ≤ 1000) (hz : B ≤ w.heap.size) (ty : TypeId) :
    ∃ v w', (Builtin.append_ #[32, 32] ty #[.slice AO k co, .slice (some ⟨gf, 0, none⟩) 1 1]).run Try.prog w = .ok v w' ∧ ∃ A8 c8, v = .slice A8 (k + 1) c8 ∧ TwoRows w' B A8 (k + 1) c8 AP k2 cp (fs ++ [(t, d)]) ps ∧ w.grownBy w' (Value.slice AO k co).ownBlock ∧ Below B w w' := by
  obtain ⟨vs, h1, h2, h3⟩ := h
  obtain ⟨i0, hi, hz0, hz1, hz2⟩ := info_parts infoFld
  have hr : Rd w 2 (some ⟨gf, 0, none⟩) 1 1 [.int .i64 t, .slice A n c] := by
    refine ⟨rfl, Nat.le_refl _, by decide, fun i u hu => ⟨gf, 0, rfl, ?_⟩⟩
    rw [Nat.zero_add, hB.cell i, ← hu]
    match i with
    | 0 | 1 => rfl
    | i + 2 => rfl
  obtain ⟨A8, c8, w8, hrun, g1, g2, g3⟩ := run_append_rd (P := Try.prog) 32 ty i0 _ 32 Try.underlying32 hi hz0 hz1 hz2 rfl (by decide) h1 hr (by intro u hu; simp at hu; rcases hu with rfl | rfl <;> rfl) (by unfold maxLen; omega) (by omega) hz
  refine ⟨_, w8, hrun, A8, c8, rfl, ⟨_, g1, (h2.grew1 g2 g3).snoc (t, d) (hd.kept g2 o1) (off_grew (w' := w8) hd o1 g3) o2, World.ownsRow.kept h3 g2 (own_ne2 h3 h1 (by decide))⟩, g2, (Below.refl B w).grown g2 hz (fun k hk => (h1.lt k hk).1)⟩
theorem TwoRows.place (h : TwoRows w B AO k co AP k2 cp fs ps) {gi p : Nat} (hB : Blk w gi 3 #[.int .i64 (p : Int)]) (hk : k2 ≤ 1000) (hz : B ≤ w.heap.size) (ty : TypeId) :
    ∃ v w', (Builtin.append_ #[34, 34] ty #[.slice AP k2 cp, .slice (some ⟨gi, 0, none⟩) 1 1]).run Try.prog w = .ok v w' ∧ ∃ A8 c8, v = .slice A8 (k2 + 1) c8 ∧ TwoRows w' B AO k co A8 (k2 + 1) c8 fs (ps ++ [p]) ∧ w.grownBy w' (Value.slice AP k2 cp).ownBlock ∧ Below B w w' := by
  obtain ⟨vs, h1, h2, h3⟩ := h
  obtain ⟨i0, hi, hz0, hz1, hz2⟩ := info_parts infoInt
  have hr : Rd w 1 (some ⟨gi, 0, none⟩) 1 1 [.int .i64 (p : Int)] := by
    refine ⟨rfl, Nat.le_refl _, by decide, fun i u hu => ⟨gi, 0, rfl, ?_⟩⟩
    rw [Nat.zero_add, hB.cell i, ← hu]
    match i with
    | 0 => rfl
    | i + 1 => rfl
  obtain ⟨A8, c8, w8, hrun, g1, g2, g3⟩ := run_append_rd (P := Try.prog) 34 ty i0 _ 8 Try.underlying34 hi hz0 hz1 hz2 rfl (by decide) h3 hr (by intro u hu; simp at hu; subst hu; rfl) (by unfold maxLen; omega) (by omega) hz
  refine ⟨_, w8, hrun, A8, c8, rfl, ⟨vs, h1.kept g2 (own_ne2 h1 h3 (by decide)), h2.grew2 g2 g3, by unfold IntsA; rw [List.map_append]; exact g1⟩, g2, (Below.refl B w).grown g2 hz (fun k hk => (World.ownsRow.lt h3 k hk).1)⟩
theorem TwoRows.blk1 (h : TwoRows w B AO k co AP k2 cp fs ps) {g : Nat} {cs : Array Value} (hB : Blk w g 3 cs) (hg : w.grownBy w' (Value.slice AO k co).ownBlock) : Blk w' g 3 cs := by
  obtain ⟨vs, h1, _, _⟩ := h
  exact hB.grown hg (own_ne h1 hB (by decide)).symm
end
theorem lists_blk1 {w : World} {g T : Nat} {A1 : Option Addr} {n1 c1 : Nat} {l1 : List UInt8} (hB : Blk w g T #[.slice A1 n1 c1]) (h1 : Bytes w A1 n1 c1 l1) : Lists w (some ⟨g, 0, none⟩) 1 1 [l1] := by
  refine ⟨[.slice A1 n1 c1], ⟨rfl, Nat.le_refl _, by decide, fun i u hu => ⟨g, 0, rfl, ?_⟩⟩, rfl, fun i l hi => ?_⟩
  · rw [Nat.zero_add, hB.cell i]; simpa using hu
  · match i, hi with
    | 0, hi => simp at hi; subst hi; exact ⟨_, _, _, rfl, h1⟩
theorem refGet2_any (A : Option Addr) (c : Nat) (l : List UInt8) (ty : Nat) (w : World) (h : Bytes w A 2 c l) (he : be64 l 2 = ty) :
    Calls Try.prog 44 #[.slice A 2 c] w fun e w' => e = .returned (.int .u64 ty) ∧ w = w' := by
  subst he
  exact refGet_any A 2 c l w h
theorem two_next {w : World} {B k co k2 cp p : Nat} {AO AP : Option Addr} {seen : List (Nat × (Int × List UInt8))} {x : Int × List UInt8} (h : TwoRows w B AO k co AP k2 cp (flX seen ++ [x]) (plX seen ++ [p])) : TwoRows w B AO k co AP k2 cp (flX (seen ++ [(p, x)])) (plX (seen ++ [(p, x)])) := by
  simpa [flX, plX] using h
set_option maxRecDepth 100000 in
set_option maxHeartbeats 8000000 in
theorem refWalk_any (A : Option Addr) (n c : Nat) (l : List UInt8) (w : World) (hb : Bytes w A n c l) :
    Calls Try.prog 78 #[.slice A n c] w fun e w' => ∃ A1 n1 c1 A2 n2 c2, e = .returned (.tuple #[.slice A1 n1 c1, .slice A2 n2 c2, .int .i64 (readX l).1]) ∧ FldL w' A1 n1 c1 (decL (readX l)) ∧ IntsL w' A2 n2 c2 (plcL (readX l)) ∧ Below w.heap.size w w' := by
  obtain ⟨R, hR⟩ : ∃ R, readX l = R := ⟨_, rfl⟩
  rw [hR]
  have HR := Lib.hid hR
  have hcap := hb.cap
  have hle := hb.le
  have HB := Lib.hid hb
  have HLl := Lib.hid hb.len
  clear hb hR
  by_cases hbig : 1232 < n
  ·
    have q1 : (1232 : Int) < (n : Int) := by omega
    have HE : Hid (R.1 = 2) := by rw [Hid, ← HR.out, readX, if_pos (by rw [HLl.out]; exact hbig)]
    go_enter Try.func78, Try.ntmps78
    go_wp2
    go_returns
    exact ⟨none, 0, 0, none, 0, 0, by rw [HE.out]; rfl, by rw [decL, if_neg (by rw [HE.out]; decide)]; exact FldL.nil _, by rw [plcL, if_neg (by rw [HE.out]; decide)]; exact Rd.nil _ _ _ (by decide) _, Below.refl _ _⟩
  have q1 : ¬ (1232 : Int) < (n : Int) := by omega
  have HS0 : Hid (Scans R n 0 0 l []) := by
    have e : R = wkX n 0 0 l := by rw [← HR.out, readX, if_neg (by rw [HLl.out]; exact hbig), HLl.out]
    exact ⟨by rw [HLl.out]; exact Nat.le_refl _, by rw [e], fun _ => by rw [e]; rfl⟩
  go_enter Try.func78, Try.ntmps78
  go_wp2_with fail
  go_loopw [5, 6, 7] (fun lv sv pv wr => ∃ (p k m co cp : Nat) (AO AP : Option Addr) (seen : List (Nat × (Int × List UInt8))), p ≤ n ∧ k ≤ 24 ∧ pv = .int .i64 p ∧ lv = .slice AO k co ∧ sv = .slice AP k cp ∧ Hid (Scans R m p k (l.drop p) seen) ∧ Hid (TwoRows wr w.heap.size AO k co AP k cp (flX seen) (plX seen)) ∧ Below w.heap.size w wr) (fun _ _ pv _ => n - (intOf pv).toNat)
  case atStart => exact ⟨0, 0, n, 0, 0, none, none, [], Nat.zero_le _, by decide, rfl, rfl, rfl, HS0, TwoRows.nil _ _, Below.refl _ _⟩
  case round =>
    clear HS0
    obtain ⟨p, k, m, co, cp, AO, AP, seen, hp, hk24, rfl, rfl, rfl, HS, TR, hbr⟩ := hrel
    have RW := Lib.hid hbr
    have hz_wr := hbr.size
    obtain ⟨cc1, cc2, cc3, cc4⟩ := TR.out.caps
    by_cases hpn : p < n
    ·
      obtain ⟨d, hd⟩ : ∃ d, n - p = d := ⟨_, rfl⟩
      have hd0 : 0 < d := by omega
      have hdn1 : p + d ≤ n := by omega
      have hdn2 : n ≤ p + d := by omega
      have V0 := Lib.hid (HB.out.cutFrom p (by omega) (d := d) (k := c - p) hd rfl)
      have HLR := Lib.hid V0.out.len
      obtain ⟨rest, hrest⟩ : ∃ rest, l.drop p = rest := ⟨_, rfl⟩
      rw [hrest] at V0 HLR HS
      have HREST := Lib.hid hrest
      have hpi : (p : Int) < (n : Int) := by omega
      have hni : (n : Int) - (p : Int) = (d : Int) := by omega
      have hcn : c ≤ 9223372036854775807 := hcap
      clear hrest hd hbr
      by_cases h4 : d < 4
      ·
        have h4i : (d : Int) < 4 := by omega
        have HN := Lib.hid (HS.out.bad (by rw [HLR.out]; omega) (e := 1) (fun m => wkX_short (by rw [HLR.out]; omega) (by rw [HLR.out]; exact h4)))
        go_wp2
        go_returns
        exact ⟨none, 0, 0, none, 0, 0, by rw [HN.out]; rfl, by rw [decL, if_neg (by rw [HN.out]; decide)]; exact FldL.nil _, by rw [plcL, if_neg (by rw [HN.out]; decide)]; exact Rd.nil _ _ _ (by decide) _, RW.out⟩
      have h4i : ¬ (d : Int) < 4 := by omega
      have s2 := run_cut und_bytes size_byte (A := A) (n := n) (c := c) ((p : Int) + 2) ((p : Int) + 4) (p + 2) (p + 4) 2 (c - (p + 2)) (by omega) (by omega) (by omega) (by omega) (by omega) rfl
      have V2 := Lib.hid (HB.out.cutS (p + 2) (p + 4) (by omega) (by omega) (d := 2) (k := c - (p + 2)) (by omega) rfl)
      have eV2 : Hid ((l.drop (p + 2)).take 2 = (rest.drop 2).take 2) := by rw [Hid, ← HREST.out, List.drop_drop]
      rw [eV2.out] at V2
      obtain ⟨q, hq⟩ : ∃ q, two (rest.drop 2) = q := ⟨_, rfl⟩
      obtain ⟨ty, hty⟩ : ∃ ty, two rest = ty := ⟨_, rfl⟩
      have q5 : q < 65536 := by rw [← hq]; exact two_lt _ (by rw [List.length_drop, HLR.out]; omega)
      have t5 : ty < 65536 := by rw [← hty]; exact two_lt _ (by rw [HLR.out]; omega)
      have E1 : Hid (be64 ((rest.drop 2).take 2) 2 = q) := hq
      have E2 : Hid (be64 (rest.take 2) 2 = ty) := hty
      have HQ := Lib.hid hq
      have HT := Lib.hid hty
      clear hq hty
      have wq : IntKind.i64.wrap (q : Int) = (q : Int) := IntWalk.i64_in _ (by omega)
      have wt : IntKind.i64.wrap (ty : Int) = (ty : Int) := IntWalk.i64_in _ (by omega)
      obtain ⟨r4, hr4⟩ : ∃ r4, q % 4 = r4 := ⟨_, rfl⟩
      have er : (q : Int) % 4 = (r4 : Int) := by omega
      by_cases hf : ¬ r4 = 0
      ·
        have e1 : ((r4 : Int) == 0) = false := by simp; omega
        have e2 : ((r4 : Int) != 0) = true := by simp [bne, e1]
        have HN := Lib.hid (HS.out.bad (by rw [HLR.out]; omega) (e := 3) (fun m => wkX_form (by rw [HLR.out]; omega) (.inl (by rw [HQ.out]; omega))))
        clear hf hr4
        go_wp2_with fail
        refine (refGet2_any _ _ _ _ _ (V2.out.below RW.out) E1.out).mono ?_
        rintro e wx ⟨rfl, rfl⟩
        go_wp2
        go_returns
        exact ⟨none, 0, 0, none, 0, 0, by rw [HN.out]; rfl, by rw [decL, if_neg (by rw [HN.out]; decide)]; exact FldL.nil _, by rw [plcL, if_neg (by rw [HN.out]; decide)]; exact Rd.nil _ _ _ (by decide) _, RW.out⟩
      obtain rfl : r4 = 0 := by omega
      clear hf
      by_cases h16 : q < 16
      ·
        have e1 : (q : Int) < 16 := by omega
        have HN := Lib.hid (HS.out.bad (by rw [HLR.out]; omega) (e := 3) (fun m => wkX_form (by rw [HLR.out]; omega) (.inr (by rw [HQ.out]; omega))))
        go_wp2_with fail
        refine (refGet2_any _ _ _ _ _ (V2.out.below RW.out) E1.out).mono ?_
        rintro e wx ⟨rfl, rfl⟩
        go_wp2
        go_returns
        exact ⟨none, 0, 0, none, 0, 0, by rw [HN.out]; rfl, by rw [decL, if_neg (by rw [HN.out]; decide)]; exact FldL.nil _, by rw [plcL, if_neg (by rw [HN.out]; decide)]; exact Rd.nil _ _ _ (by decide) _, RW.out⟩
      have e16 : ¬ (q : Int) < 16 := by omega
      by_cases hqd : d < q
      ·
        have e1 : (d : Int) < (q : Int) := by omega
        have HN := Lib.hid (HS.out.bad (by rw [HLR.out]; omega) (e := 1) (fun m => wkX_less (by rw [HLR.out]; omega) (by rw [HQ.out]; omega) (by rw [HQ.out]; omega) (by rw [HLR.out, HQ.out]; omega)))
        go_wp2_with fail
        refine (refGet2_any _ _ _ _ _ (V2.out.below RW.out) E1.out).mono ?_
        rintro e wx ⟨rfl, rfl⟩
        go_wp2
        go_returns
        exact ⟨none, 0, 0, none, 0, 0, by rw [HN.out]; rfl, by rw [decL, if_neg (by rw [HN.out]; decide)]; exact FldL.nil _, by rw [plcL, if_neg (by rw [HN.out]; decide)]; exact Rd.nil _ _ _ (by decide) _, RW.out⟩
      have eqd : ¬ (d : Int) < (q : Int) := by omega
      by_cases hk : k = 24
      ·
        have HN := Lib.hid (HS.out.bad (by rw [HLR.out]; omega) (e := 8) (fun m => wkX_limit (by rw [HLR.out]; omega) (by rw [HQ.out]; omega) (by rw [HQ.out]; omega) (by rw [HLR.out, HQ.out]; omega) hk))
        subst hk
        go_wp2_with fail
        refine (refGet2_any _ _ _ _ _ (V2.out.below RW.out) E1.out).mono ?_
        rintro e wx ⟨rfl, rfl⟩
        go_wp2
        go_returns
        exact ⟨none, 0, 0, none, 0, 0, by rw [HN.out]; rfl, by rw [decL, if_neg (by rw [HN.out]; decide)]; exact FldL.nil _, by rw [plcL, if_neg (by rw [HN.out]; decide)]; exact Rd.nil _ _ _ (by decide) _, RW.out⟩
      have ek : ((k : Int) == 24) = false := by simp; omega
      have HNX := Lib.hid (HS.out.next (by rw [HLR.out]; omega) (by rw [HQ.out]; omega) (by rw [HQ.out]; omega) (by rw [HLR.out, HQ.out]; omega) (by omega))
      rw [HQ.out, HT.out] at HNX
      have hdq : q ≤ d := by omega
      obtain ⟨dat, hdat⟩ : ∃ dat, (rest.drop 4).take (q - 4) = dat := ⟨_, rfl⟩
      rw [hdat] at HNX
      have HDAT := Lib.hid hdat
      clear hdat
      have s3 := run_cut und_bytes size_byte (A := A) (n := n) (c := c) (p : Int) ((p : Int) + 2) p (p + 2) 2 (c - p) rfl (by omega) (by omega) (by omega) (by omega) rfl
      have V3 := Lib.hid (HB.out.cutS p (p + 2) (by omega) (by omega) (d := 2) (k := c - p) (by omega) rfl)
      rw [HREST.out] at V3
      have s4 := run_cut und_bytes size_byte (A := A) (n := n) (c := c) ((p : Int) + 4) ((p : Int) + (q : Int)) (p + 4) (p + q) (q - 4) (c - (p + 4)) (by omega) (by omega) (by omega) (by omega) (by omega) rfl
      have V4 := Lib.hid (HB.out.cutS (p + 4) (p + q) (by omega) (by omega) (d := q - 4) (k := c - (p + 4)) (by omega) rfl)
      have eV4 : Hid ((l.drop (p + 4)).take (q - 4) = dat) := by rw [Hid, ← HDAT.out, ← HREST.out, List.drop_drop]
      rw [eV4.out] at V4
      have w2 : IntKind.i64.wrap ((p : Int) + 2) = (p : Int) + 2 := IntWalk.i64_in _ (by omega)
      have w4 : IntKind.i64.wrap ((p : Int) + 4) = (p : Int) + 4 := IntWalk.i64_in _ (by omega)
      have wpq : IntKind.i64.wrap ((p : Int) + (q : Int)) = (p : Int) + (q : Int) := IntWalk.i64_in _ (by omega)
      have hdl : Hid (([dat] : List (List UInt8)).flatten.length = q - 4) := by have := V4.out.len; rw [Hid]; simpa using this
      have hq4 : q - 4 ≤ 100000 := by omega
      go_wp2_with fail
      refine (refGet2_any _ _ _ _ _ (V2.out.below RW.out) E1.out).mono ?_
      rintro e wx ⟨rfl, rfl⟩
      go_upto_region 16 with fail
      refine zBegin (Z := []) (S := fun w' => Below w.heap.size w w') (by kernel_rfl) ?pz1 (RW.out.drew) (fun hPQ wd hbd hHeld => ?sz1)
      case pz1 => (repeat (with_reducible first | refine PQ.then ?_ | refine PQ.block ?_)); exact fun _ _ d _ _ h => by cases d <;> exact h
      case sz1 =>
        have TR := TR.out.stays hbd
        clear hbd
        refine zVal (i := 0) (d := (some 45)) (v := ?_) rfl rfl (by kernel_rfl) (by kernel_rfl) (by kernel_rfl) (by kernel_rfl) hPQ (by rfl) (fun wq hSw => ?_) hHeld ?_
        rotate_left 1
        · go_simp; try with_reducible rfl
        try simp only [Act.put, List.setIfInBounds_toArray, List.set_cons_zero, List.set_cons_succ]
        refine zVal (i := 1) (d := (some 46)) (v := ?_) rfl rfl (by kernel_rfl) (by kernel_rfl) (by kernel_rfl) (by kernel_rfl) hPQ (by rfl) (fun wq hSw => ?_) hHeld ?_
        rotate_left 1
        · go_simp; try with_reducible rfl
        try simp only [Act.put, List.setIfInBounds_toArray, List.set_cons_zero, List.set_cons_succ]
        refine zVal (i := 2) (d := (some 47)) (v := ?_) rfl rfl (by kernel_rfl) (by kernel_rfl) (by kernel_rfl) (by kernel_rfl) hPQ (by rfl) (fun wq hSw => ?_) hHeld ?_
        rotate_left 1
        · go_simp; try with_reducible rfl
        try simp only [Act.put, List.setIfInBounds_toArray, List.set_cons_zero, List.set_cons_succ]
        refine zVal (i := 3) (d := (some 48)) (v := ?_) rfl rfl (by kernel_rfl) (by kernel_rfl) (by kernel_rfl) (by kernel_rfl) hPQ (by rfl) (fun wq hSw => ?_) hHeld ?_
        rotate_left 1
        · go_simp; try with_reducible rfl
        try simp only [Act.put, List.setIfInBounds_toArray, List.set_cons_zero, List.set_cons_succ]
        refine zVal (i := 4) (d := (some 49)) (v := ?_) rfl rfl (by kernel_rfl) (by kernel_rfl) (by kernel_rfl) (by kernel_rfl) hPQ (by rfl) (fun wq hSw => ?_) hHeld ?_
        rotate_left 1
        · go_simp; try with_reducible rfl
        try simp only [Act.put, List.setIfInBounds_toArray, List.set_cons_zero, List.set_cons_succ]
        refine zVal (i := 5) (d := (some 50)) (v := ?_) rfl rfl (by kernel_rfl) (by kernel_rfl) (by kernel_rfl) (by kernel_rfl) hPQ (by rfl) (fun wq hSw => ?_) hHeld ?_
        rotate_left 1
        · go_simp; try with_reducible rfl
        try simp only [Act.put, List.setIfInBounds_toArray, List.set_cons_zero, List.set_cons_succ]
        refine zCall (i := 6) (d := (some 51)) rfl rfl (by kernel_rfl) (by kernel_rfl) (by kernel_rfl) (by kernel_rfl) hPQ (by rfl) (fun wq hSw => (refGet2_any _ _ _ _ _ (V3.out.below hSw) E2.out).mono (fun e q hq => ⟨hq.1, by first | exact hq.2 | exact hq.2.symm⟩)) (fun wq hSw => ?_) hHeld ?_
        · go_simp
        try simp only [Act.put, List.setIfInBounds_toArray, List.set_cons_zero, List.set_cons_succ]
        refine zVal (i := 7) (d := (some 52)) (v := ?_) rfl rfl (by kernel_rfl) (by kernel_rfl) (by kernel_rfl) (by kernel_rfl) hPQ (by rfl) (fun wq hSw => ?_) hHeld ?_
        rotate_left 1
        · go_simp; try with_reducible rfl
        try simp only [Act.put, List.setIfInBounds_toArray, List.set_cons_zero, List.set_cons_succ]
        refine zVal (i := 8) (d := (some 53)) (v := ?_) rfl rfl (by kernel_rfl) (by kernel_rfl) (by kernel_rfl) (by kernel_rfl) hPQ (by rfl) (fun wq hSw => ?_) hHeld ?_
        rotate_left 1
        · go_simp; try with_reducible rfl
        try simp only [Act.put, List.setIfInBounds_toArray, List.set_cons_zero, List.set_cons_succ]
        refine zVal (i := 9) (d := (some 54)) (v := ?_) rfl rfl (by kernel_rfl) (by kernel_rfl) (by kernel_rfl) (by kernel_rfl) hPQ (by rfl) (fun wq hSw => ?_) hHeld ?_
        rotate_left 1
        · go_simp; try with_reducible rfl
        try simp only [Act.put, List.setIfInBounds_toArray, List.set_cons_zero, List.set_cons_succ]
        refine zVal (i := 10) (d := (some 55)) (v := ?_) rfl rfl (by kernel_rfl) (by kernel_rfl) (by kernel_rfl) (by kernel_rfl) hPQ (by rfl) (fun wq hSw => ?_) hHeld ?_
        rotate_left 1
        · go_simp; try with_reducible rfl
        try simp only [Act.put, List.setIfInBounds_toArray, List.set_cons_zero, List.set_cons_succ]
        refine zVal (i := 11) (d := (some 56)) (v := ?_) rfl rfl (by kernel_rfl) (by kernel_rfl) (by kernel_rfl) (by kernel_rfl) hPQ (by rfl) (fun wq hSw => ?_) hHeld ?_
        rotate_left 1
        · go_simp; try with_reducible rfl
        try simp only [Act.put, List.setIfInBounds_toArray, List.set_cons_zero, List.set_cons_succ]
        refine zVal (i := 12) (d := (some 57)) (v := ?_) rfl rfl (by kernel_rfl) (by kernel_rfl) (by kernel_rfl) (by kernel_rfl) hPQ (by rfl) (fun wq hSw => ?_) hHeld ?_
        rotate_left 1
        · go_simp; try with_reducible rfl
        try simp only [Act.put, List.setIfInBounds_toArray, List.set_cons_zero, List.set_cons_succ]
        refine zVal (i := 13) (d := (some 58)) (v := ?_) rfl rfl (by kernel_rfl) (by kernel_rfl) (by kernel_rfl) (by kernel_rfl) hPQ (by rfl) (fun wq hSw => ?_) hHeld ?_
        rotate_left 1
        · go_simp; try with_reducible rfl
        try simp only [Act.put, List.setIfInBounds_toArray, List.set_cons_zero, List.set_cons_succ]
        refine zVal (i := 14) (d := (some 59)) (v := ?_) rfl rfl (by kernel_rfl) (by kernel_rfl) (by kernel_rfl) (by kernel_rfl) hPQ (by rfl) (fun wq hSw => ?_) hHeld ?_
        rotate_left 1
        · go_simp; try with_reducible rfl
        try simp only [Act.put, List.setIfInBounds_toArray, List.set_cons_zero, List.set_cons_succ]
        refine zVal (i := 20) (d := (some 65)) (v := ?_) rfl rfl (by kernel_rfl) (by kernel_rfl) (by kernel_rfl) (by kernel_rfl) hPQ (by rfl) (fun wq hSw => ?_) hHeld ?_
        rotate_left 1
        · go_simp; try with_reducible rfl
        try simp only [Act.put, List.setIfInBounds_toArray, List.set_cons_zero, List.set_cons_succ]
        refine zVal (i := 21) (d := (some 66)) (v := ?_) rfl rfl (by kernel_rfl) (by kernel_rfl) (by kernel_rfl) (by kernel_rfl) hPQ (by rfl) (fun wq hSw => ?_) hHeld ?_
        rotate_left 1
        · go_simp; try with_reducible rfl
        try simp only [Act.put, List.setIfInBounds_toArray, List.set_cons_zero, List.set_cons_succ]
        refine zAll (rs := [15, 22]) (by kernel_rfl) (by decide) (fun k hk => ?_)
        rcases zTwo hk with rfl | rfl
        ·
          refine zOpNew (j := 15) (d := (some 60)) (T := 23) (z := #[.slice (cutA A c (p + 4)) (q - 4) (c - (p + 4))]) (val := fun g => .slice (some ⟨g, 0, none⟩) 1 1) rfl rfl (by rfl) ?rz2 (fun g1 u1 g1_ge g1_lt B1 hb1 => ⟨.inr (hHeld.trans (hb1.mono hHeld.size)), ?tz2⟩)
          case rz2 => go_simp; try with_reducible rfl
          case tz2 =>
            try simp only [Act.put, List.setIfInBounds_toArray, List.set_cons_zero, List.set_cons_succ]
            have TR := TR.stays hb1
            have hHeld := hHeld.trans (hb1.mono hHeld.size)
            clear hb1
            refine zAll (rs := [16, 22]) (by kernel_rfl) (by decide) (fun k hk => ?_)
            rcases zTwo hk with rfl | rfl
            ·
              refine zOpCall (j := 16) (d := (some 61)) (R := fun v w' => ∃ Ap cp, v = .slice Ap (q - 4) cp ∧ w'.ownsRow u1.heap.size 5 1 (.slice Ap (q - 4) cp) (q - 4) (([dat] : List (List UInt8)).flatten.map byteV) ∧ Below u1.heap.size u1 w') rfl rfl (by rfl) ?rz3 ((refJoin_any _ _ _ [dat] _ (lists_blk1 B1 (V4.out.below hHeld)) (q - 4) hdl.out (by omega)).mono fun e q hq => by obtain ⟨Ap, cp, h1, h2, h3⟩ := hq; exact ⟨_, h1, Ap, cp, rfl, h2, h3⟩) (fun v u2 hRv => ?tz3)
              case rz3 => go_simp
              case tz3 =>
                obtain ⟨AD, cD, rfl, hD, hb2⟩ := hRv
                refine ⟨.inr (hHeld.trans (hb2.mono hHeld.size)), ?_⟩
                try simp only [Act.put, List.setIfInBounds_toArray, List.set_cons_zero, List.set_cons_succ]
                have O1 : Off AD (q - 4) (Value.slice AO k co).ownBlock := Off.fresh (Fresh.own hD) TR.lt1
                have O2 : Off AD (q - 4) (Value.slice AP k cp).ownBlock := Off.fresh (Fresh.own hD) TR.lt2
                have TR := TR.stays hb2
                have HD : Bytes u2 AD (q - 4) cD dat := by have := own_rd hD; simpa [Bytes] using this
                clear hD
                have hHeld := hHeld.trans (hb2.mono hHeld.size)
                clear hb2
                refine zVal (i := 17) (d := (some 62)) (v := ?_) rfl rfl (by kernel_rfl) (by kernel_rfl) (by kernel_rfl) (by kernel_rfl) hPQ (by rfl) (fun wq hSw => ?_) hHeld ?_
                rotate_left 1
                · go_simp; try with_reducible rfl
                try simp only [Act.put, List.setIfInBounds_toArray, List.set_cons_zero, List.set_cons_succ]
                refine zAll (rs := [18, 22]) (by kernel_rfl) (by decide) (fun k hk => ?_)
                rcases zTwo hk with rfl | rfl
                ·
                  refine zOpNew (j := 18) (d := (some 63)) (T := 38) (z := #[.int .i64 (ty : Int), .slice AD (q - 4) cD]) (val := fun g => .slice (some ⟨g, 0, none⟩) 1 1) rfl rfl (by rfl) ?rz4 (fun gf u3 gf_ge gf_lt BF hb3 => ⟨.inr (hHeld.trans (hb3.mono hHeld.size)), ?tz4⟩)
                  case rz4 => go_simp; try with_reducible rfl
                  case tz4 =>
                    try simp only [Act.put, List.setIfInBounds_toArray, List.set_cons_zero, List.set_cons_succ]
                    have TR := TR.stays hb3
                    have HD := HD.stays hb3
                    have hHeld := hHeld.trans (hb3.mono hHeld.size)
                    clear hb3
                    refine zAll (rs := [19, 22]) (by kernel_rfl) (by decide) (fun k hk => ?_)
                    rcases zTwo hk with rfl | rfl
                    ·
                      refine zOpApp (j := 19) (d := (some 64)) (R := fun v w' => ∃ A8 c8, v = .slice A8 (k + 1) c8 ∧ TwoRows w' w.heap.size A8 (k + 1) c8 AP k cp (flX seen ++ [((ty : Int), dat)]) (plX seen) ∧ u3.grownBy w' (Value.slice AO k co).ownBlock ∧ Below w.heap.size u3 w') rfl rfl (by rfl) rfl (by rfl) (by rfl) (TR.item BF HD O1 O2 (by omega) hHeld.size _) (fun v u4 hRv => ?tz5)
                      case tz5 =>
                        obtain ⟨A8, c8, rfl, TR8, hg8, hb4⟩ := hRv
                        refine ⟨.inr (hHeld.trans hb4), ?_⟩
                        try simp only [Act.put, List.setIfInBounds_toArray, List.set_cons_zero, List.set_cons_succ]
                        have hHeld := hHeld.trans hb4
                        have TR := TR8
                        clear TR8 hg8 hb4
                        refine zAlone (j := 22) (by kernel_rfl) ?_
                        refine zOpNew (j := 22) (d := (some 67)) (T := 3) (z := #[.int .i64 (p : Int)]) (val := fun g => .slice (some ⟨g, 0, none⟩) 1 1) rfl rfl (by rfl) ?rz6 (fun gi u5 gi_ge gi_lt BI hb5 => ⟨.inr (hHeld.trans (hb5.mono hHeld.size)), ?tz6⟩)
                        case rz6 => go_simp; try with_reducible rfl
                        case tz6 =>
                          try simp only [Act.put, List.setIfInBounds_toArray, List.set_cons_zero, List.set_cons_succ]
                          have TR := TR.stays hb5
                          have hHeld := hHeld.trans (hb5.mono hHeld.size)
                          clear hb5
                          refine zAlone (j := 23) (by kernel_rfl) ?_
                          refine zOpApp (j := 23) (d := (some 68)) (R := fun v w' => ∃ A9 c9, v = .slice A9 (k + 1) c9 ∧ TwoRows w' w.heap.size A8 (k + 1) c8 A9 (k + 1) c9 (flX seen ++ [((ty : Int), dat)]) (plX seen ++ [p]) ∧ u5.grownBy w' (Value.slice AP k cp).ownBlock ∧ Below w.heap.size u5 w') rfl rfl (by rfl) rfl (by rfl) (by rfl) (TR.place BI (by omega) hHeld.size _) (fun v u6 hRv => ?tz7)
                          case tz7 =>
                            obtain ⟨A9, c9, rfl, TR9, hg9, hb6⟩ := hRv
                            refine ⟨.inr (hHeld.trans hb6), ?_⟩
                            try simp only [Act.put, List.setIfInBounds_toArray, List.set_cons_zero, List.set_cons_succ]
                            have hHeld := hHeld.trans hb6
                            clear hg9 hb6 TR
                            refine zVal (i := 24) (d := (some 5)) (v := ?_) rfl rfl (by kernel_rfl) (by kernel_rfl) (by kernel_rfl) (by kernel_rfl) hPQ (by rfl) (fun wq hSw => ?_) hHeld ?_
                            rotate_left 1
                            · go_simp; try with_reducible rfl
                            try simp only [Act.put, List.setIfInBounds_toArray, List.set_cons_zero, List.set_cons_succ]
                            refine zVal (i := 25) (d := (some 6)) (v := ?_) rfl rfl (by kernel_rfl) (by kernel_rfl) (by kernel_rfl) (by kernel_rfl) hPQ (by rfl) (fun wq hSw => ?_) hHeld ?_
                            rotate_left 1
                            · go_simp; try with_reducible rfl
                            try simp only [Act.put, List.setIfInBounds_toArray, List.set_cons_zero, List.set_cons_succ]
                            refine zDone (by kernel_rfl) ?_ _
                            have TX := Lib.hid (two_next TR9)
                            have RX := hHeld
                            have HN2 : Hid (Scans R (m - 1) (p + q) (k + 1) (l.drop (p + q)) (seen ++ [(p, ((ty : Int), dat))])) := by have h := HNX.out; have hdd : rest.drop q = l.drop (p + q) := (by rw [← HREST.out, List.drop_drop]); rw [hdd] at h; exact h
                            clear hHeld TR9
                            go_wp2
                            go_roundw
                            case rel => exact ⟨p + q, k + 1, m - 1, c8, c9, A8, A9, _, by omega, by omega, by go_num, rfl, rfl, HN2, TX, RX⟩
                            case measure => simp [intOf]; omega
                    ·
                      refine zOpNew (j := 22) (d := (some 67)) (T := 3) (z := #[.int .i64 (p : Int)]) (val := fun g => .slice (some ⟨g, 0, none⟩) 1 1) rfl rfl (by rfl) ?rz8 (fun gi u7 gi_ge gi_lt BI hb7 => ⟨.inr (hHeld.trans (hb7.mono hHeld.size)), ?tz8⟩)
                      case rz8 => go_simp; try with_reducible rfl
                      case tz8 =>
                        try simp only [Act.put, List.setIfInBounds_toArray, List.set_cons_zero, List.set_cons_succ]
                        have TR := TR.stays hb7
                        have HD := HD.stays hb7
                        have BF := BF.stays hb7
                        have hHeld := hHeld.trans (hb7.mono hHeld.size)
                        clear hb7
                        refine zAlone (j := 19) (by kernel_rfl) ?_
                        refine zOpApp (j := 19) (d := (some 64)) (R := fun v w' => ∃ A8 c8, v = .slice A8 (k + 1) c8 ∧ TwoRows w' w.heap.size A8 (k + 1) c8 AP k cp (flX seen ++ [((ty : Int), dat)]) (plX seen) ∧ u7.grownBy w' (Value.slice AO k co).ownBlock ∧ Below w.heap.size u7 w') rfl rfl (by rfl) rfl (by rfl) (by rfl) (TR.item BF HD O1 O2 (by omega) hHeld.size _) (fun v u8 hRv => ?tz9)
                        case tz9 =>
                          obtain ⟨A8, c8, rfl, TR8, hg8, hb8⟩ := hRv
                          refine ⟨.inr (hHeld.trans hb8), ?_⟩
                          try simp only [Act.put, List.setIfInBounds_toArray, List.set_cons_zero, List.set_cons_succ]
                          have BI := TR.blk1 BI hg8
                          have hHeld := hHeld.trans hb8
                          have TR := TR8
                          clear TR8 hg8 hb8
                          refine zAlone (j := 23) (by kernel_rfl) ?_
                          refine zOpApp (j := 23) (d := (some 68)) (R := fun v w' => ∃ A9 c9, v = .slice A9 (k + 1) c9 ∧ TwoRows w' w.heap.size A8 (k + 1) c8 A9 (k + 1) c9 (flX seen ++ [((ty : Int), dat)]) (plX seen ++ [p]) ∧ u8.grownBy w' (Value.slice AP k cp).ownBlock ∧ Below w.heap.size u8 w') rfl rfl (by rfl) rfl (by rfl) (by rfl) (TR.place BI (by omega) hHeld.size _) (fun v u9 hRv => ?tz10)
                          case tz10 =>
                            obtain ⟨A9, c9, rfl, TR9, hg9, hb9⟩ := hRv
                            refine ⟨.inr (hHeld.trans hb9), ?_⟩
                            try simp only [Act.put, List.setIfInBounds_toArray, List.set_cons_zero, List.set_cons_succ]
                            have hHeld := hHeld.trans hb9
                            clear hg9 hb9 TR
                            refine zVal (i := 24) (d := (some 5)) (v := ?_) rfl rfl (by kernel_rfl) (by kernel_rfl) (by kernel_rfl) (by kernel_rfl) hPQ (by rfl) (fun wq hSw => ?_) hHeld ?_
                            rotate_left 1
                            · go_simp; try with_reducible rfl
                            try simp only [Act.put, List.setIfInBounds_toArray, List.set_cons_zero, List.set_cons_succ]
                            refine zVal (i := 25) (d := (some 6)) (v := ?_) rfl rfl (by kernel_rfl) (by kernel_rfl) (by kernel_rfl) (by kernel_rfl) hPQ (by rfl) (fun wq hSw => ?_) hHeld ?_
                            rotate_left 1
                            · go_simp; try with_reducible rfl
                            try simp only [Act.put, List.setIfInBounds_toArray, List.set_cons_zero, List.set_cons_succ]
                            refine zDone (by kernel_rfl) ?_ _
                            have TX := Lib.hid (two_next TR9)
                            have RX := hHeld
                            have HN2 : Hid (Scans R (m - 1) (p + q) (k + 1) (l.drop (p + q)) (seen ++ [(p, ((ty : Int), dat))])) := by have h := HNX.out; have hdd : rest.drop q = l.drop (p + q) := (by rw [← HREST.out, List.drop_drop]); rw [hdd] at h; exact h
                            clear hHeld TR9
                            go_wp2
                            go_roundw
                            case rel => exact ⟨p + q, k + 1, m - 1, c8, c9, A8, A9, _, by omega, by omega, by go_num, rfl, rfl, HN2, TX, RX⟩
                            case measure => simp [intOf]; omega
                ·
                  refine zOpNew (j := 22) (d := (some 67)) (T := 3) (z := #[.int .i64 (p : Int)]) (val := fun g => .slice (some ⟨g, 0, none⟩) 1 1) rfl rfl (by rfl) ?rz11 (fun gi u10 gi_ge gi_lt BI hb10 => ⟨.inr (hHeld.trans (hb10.mono hHeld.size)), ?tz11⟩)
                  case rz11 => go_simp; try with_reducible rfl
                  case tz11 =>
                    try simp only [Act.put, List.setIfInBounds_toArray, List.set_cons_zero, List.set_cons_succ]
                    have TR := TR.stays hb10
                    have HD := HD.stays hb10
                    have hHeld := hHeld.trans (hb10.mono hHeld.size)
                    clear hb10
                    refine zAlone (j := 18) (by kernel_rfl) ?_
                    refine zOpNew (j := 18) (d := (some 63)) (T := 38) (z := #[.int .i64 (ty : Int), .slice AD (q - 4) cD]) (val := fun g => .slice (some ⟨g, 0, none⟩) 1 1) rfl rfl (by rfl) ?rz12 (fun gf u11 gf_ge gf_lt BF hb11 => ⟨.inr (hHeld.trans (hb11.mono hHeld.size)), ?tz12⟩)
                    case rz12 => go_simp; try with_reducible rfl
                    case tz12 =>
                      try simp only [Act.put, List.setIfInBounds_toArray, List.set_cons_zero, List.set_cons_succ]
                      have TR := TR.stays hb11
                      have HD := HD.stays hb11
                      have BI := BI.stays hb11
                      have hHeld := hHeld.trans (hb11.mono hHeld.size)
                      clear hb11
                      refine zAlone (j := 19) (by kernel_rfl) ?_
                      refine zOpApp (j := 19) (d := (some 64)) (R := fun v w' => ∃ A8 c8, v = .slice A8 (k + 1) c8 ∧ TwoRows w' w.heap.size A8 (k + 1) c8 AP k cp (flX seen ++ [((ty : Int), dat)]) (plX seen) ∧ u11.grownBy w' (Value.slice AO k co).ownBlock ∧ Below w.heap.size u11 w') rfl rfl (by rfl) rfl (by rfl) (by rfl) (TR.item BF HD O1 O2 (by omega) hHeld.size _) (fun v u12 hRv => ?tz13)
                      case tz13 =>
                        obtain ⟨A8, c8, rfl, TR8, hg8, hb12⟩ := hRv
                        refine ⟨.inr (hHeld.trans hb12), ?_⟩
                        try simp only [Act.put, List.setIfInBounds_toArray, List.set_cons_zero, List.set_cons_succ]
                        have BI := TR.blk1 BI hg8
                        have hHeld := hHeld.trans hb12
                        have TR := TR8
                        clear TR8 hg8 hb12
                        refine zAlone (j := 23) (by kernel_rfl) ?_
                        refine zOpApp (j := 23) (d := (some 68)) (R := fun v w' => ∃ A9 c9, v = .slice A9 (k + 1) c9 ∧ TwoRows w' w.heap.size A8 (k + 1) c8 A9 (k + 1) c9 (flX seen ++ [((ty : Int), dat)]) (plX seen ++ [p]) ∧ u12.grownBy w' (Value.slice AP k cp).ownBlock ∧ Below w.heap.size u12 w') rfl rfl (by rfl) rfl (by rfl) (by rfl) (TR.place BI (by omega) hHeld.size _) (fun v u13 hRv => ?tz14)
                        case tz14 =>
                          obtain ⟨A9, c9, rfl, TR9, hg9, hb13⟩ := hRv
                          refine ⟨.inr (hHeld.trans hb13), ?_⟩
                          try simp only [Act.put, List.setIfInBounds_toArray, List.set_cons_zero, List.set_cons_succ]
                          have hHeld := hHeld.trans hb13
                          clear hg9 hb13 TR
                          refine zVal (i := 24) (d := (some 5)) (v := ?_) rfl rfl (by kernel_rfl) (by kernel_rfl) (by kernel_rfl) (by kernel_rfl) hPQ (by rfl) (fun wq hSw => ?_) hHeld ?_
                          rotate_left 1
                          · go_simp; try with_reducible rfl
                          try simp only [Act.put, List.setIfInBounds_toArray, List.set_cons_zero, List.set_cons_succ]
                          refine zVal (i := 25) (d := (some 6)) (v := ?_) rfl rfl (by kernel_rfl) (by kernel_rfl) (by kernel_rfl) (by kernel_rfl) hPQ (by rfl) (fun wq hSw => ?_) hHeld ?_
                          rotate_left 1
                          · go_simp; try with_reducible rfl
                          try simp only [Act.put, List.setIfInBounds_toArray, List.set_cons_zero, List.set_cons_succ]
                          refine zDone (by kernel_rfl) ?_ _
                          have TX := Lib.hid (two_next TR9)
                          have RX := hHeld
                          have HN2 : Hid (Scans R (m - 1) (p + q) (k + 1) (l.drop (p + q)) (seen ++ [(p, ((ty : Int), dat))])) := by have h := HNX.out; have hdd : rest.drop q = l.drop (p + q) := (by rw [← HREST.out, List.drop_drop]); rw [hdd] at h; exact h
                          clear hHeld TR9
                          go_wp2
                          go_roundw
                          case rel => exact ⟨p + q, k + 1, m - 1, c8, c9, A8, A9, _, by omega, by omega, by go_num, rfl, rfl, HN2, TX, RX⟩
                          case measure => simp [intOf]; omega
            ·
              refine zOpNew (j := 22) (d := (some 67)) (T := 3) (z := #[.int .i64 (p : Int)]) (val := fun g => .slice (some ⟨g, 0, none⟩) 1 1) rfl rfl (by rfl) ?rz15 (fun gi u14 gi_ge gi_lt BI hb14 => ⟨.inr (hHeld.trans (hb14.mono hHeld.size)), ?tz15⟩)
              case rz15 => go_simp; try with_reducible rfl
              case tz15 =>
                try simp only [Act.put, List.setIfInBounds_toArray, List.set_cons_zero, List.set_cons_succ]
                have TR := TR.stays hb14
                have B1 := B1.stays hb14
                have hHeld := hHeld.trans (hb14.mono hHeld.size)
                clear hb14
                refine zAlone (j := 16) (by kernel_rfl) ?_
                refine zOpCall (j := 16) (d := (some 61)) (R := fun v w' => ∃ Ap cp, v = .slice Ap (q - 4) cp ∧ w'.ownsRow u14.heap.size 5 1 (.slice Ap (q - 4) cp) (q - 4) (([dat] : List (List UInt8)).flatten.map byteV) ∧ Below u14.heap.size u14 w') rfl rfl (by rfl) ?rz16 ((refJoin_any _ _ _ [dat] _ (lists_blk1 B1 (V4.out.below hHeld)) (q - 4) hdl.out (by omega)).mono fun e q hq => by obtain ⟨Ap, cp, h1, h2, h3⟩ := hq; exact ⟨_, h1, Ap, cp, rfl, h2, h3⟩) (fun v u15 hRv => ?tz16)
                case rz16 => go_simp
                case tz16 =>
                  obtain ⟨AD, cD, rfl, hD, hb15⟩ := hRv
                  refine ⟨.inr (hHeld.trans (hb15.mono hHeld.size)), ?_⟩
                  try simp only [Act.put, List.setIfInBounds_toArray, List.set_cons_zero, List.set_cons_succ]
                  have O1 : Off AD (q - 4) (Value.slice AO k co).ownBlock := Off.fresh (Fresh.own hD) TR.lt1
                  have O2 : Off AD (q - 4) (Value.slice AP k cp).ownBlock := Off.fresh (Fresh.own hD) TR.lt2
                  have TR := TR.stays hb15
                  have BI := BI.stays hb15
                  have HD : Bytes u15 AD (q - 4) cD dat := by have := own_rd hD; simpa [Bytes] using this
                  clear hD
                  have hHeld := hHeld.trans (hb15.mono hHeld.size)
                  clear hb15
                  refine zVal (i := 17) (d := (some 62)) (v := ?_) rfl rfl (by kernel_rfl) (by kernel_rfl) (by kernel_rfl) (by kernel_rfl) hPQ (by rfl) (fun wq hSw => ?_) hHeld ?_
                  rotate_left 1
                  · go_simp; try with_reducible rfl
                  try simp only [Act.put, List.setIfInBounds_toArray, List.set_cons_zero, List.set_cons_succ]
                  refine zAlone (j := 18) (by kernel_rfl) ?_
                  refine zOpNew (j := 18) (d := (some 63)) (T := 38) (z := #[.int .i64 (ty : Int), .slice AD (q - 4) cD]) (val := fun g => .slice (some ⟨g, 0, none⟩) 1 1) rfl rfl (by rfl) ?rz17 (fun gf u16 gf_ge gf_lt BF hb16 => ⟨.inr (hHeld.trans (hb16.mono hHeld.size)), ?tz17⟩)
                  case rz17 => go_simp; try with_reducible rfl
                  case tz17 =>
                    try simp only [Act.put, List.setIfInBounds_toArray, List.set_cons_zero, List.set_cons_succ]
                    have TR := TR.stays hb16
                    have BI := BI.stays hb16
                    have HD := HD.stays hb16
                    have hHeld := hHeld.trans (hb16.mono hHeld.size)
                    clear hb16
                    refine zAlone (j := 19) (by kernel_rfl) ?_
                    refine zOpApp (j := 19) (d := (some 64)) (R := fun v w' => ∃ A8 c8, v = .slice A8 (k + 1) c8 ∧ TwoRows w' w.heap.size A8 (k + 1) c8 AP k cp (flX seen ++ [((ty : Int), dat)]) (plX seen) ∧ u16.grownBy w' (Value.slice AO k co).ownBlock ∧ Below w.heap.size u16 w') rfl rfl (by rfl) rfl (by rfl) (by rfl) (TR.item BF HD O1 O2 (by omega) hHeld.size _) (fun v u17 hRv => ?tz18)
                    case tz18 =>
                      obtain ⟨A8, c8, rfl, TR8, hg8, hb17⟩ := hRv
                      refine ⟨.inr (hHeld.trans hb17), ?_⟩
                      try simp only [Act.put, List.setIfInBounds_toArray, List.set_cons_zero, List.set_cons_succ]
                      have BI := TR.blk1 BI hg8
                      have hHeld := hHeld.trans hb17
                      have TR := TR8
                      clear TR8 hg8 hb17
                      refine zAlone (j := 23) (by kernel_rfl) ?_
                      refine zOpApp (j := 23) (d := (some 68)) (R := fun v w' => ∃ A9 c9, v = .slice A9 (k + 1) c9 ∧ TwoRows w' w.heap.size A8 (k + 1) c8 A9 (k + 1) c9 (flX seen ++ [((ty : Int), dat)]) (plX seen ++ [p]) ∧ u17.grownBy w' (Value.slice AP k cp).ownBlock ∧ Below w.heap.size u17 w') rfl rfl (by rfl) rfl (by rfl) (by rfl) (TR.place BI (by omega) hHeld.size _) (fun v u18 hRv => ?tz19)
                      case tz19 =>
                        obtain ⟨A9, c9, rfl, TR9, hg9, hb18⟩ := hRv
                        refine ⟨.inr (hHeld.trans hb18), ?_⟩
                        try simp only [Act.put, List.setIfInBounds_toArray, List.set_cons_zero, List.set_cons_succ]
                        have hHeld := hHeld.trans hb18
                        clear hg9 hb18 TR
                        refine zVal (i := 24) (d := (some 5)) (v := ?_) rfl rfl (by kernel_rfl) (by kernel_rfl) (by kernel_rfl) (by kernel_rfl) hPQ (by rfl) (fun wq hSw => ?_) hHeld ?_
                        rotate_left 1
                        · go_simp; try with_reducible rfl
                        try simp only [Act.put, List.setIfInBounds_toArray, List.set_cons_zero, List.set_cons_succ]
                        refine zVal (i := 25) (d := (some 6)) (v := ?_) rfl rfl (by kernel_rfl) (by kernel_rfl) (by kernel_rfl) (by kernel_rfl) hPQ (by rfl) (fun wq hSw => ?_) hHeld ?_
                        rotate_left 1
                        · go_simp; try with_reducible rfl
                        try simp only [Act.put, List.setIfInBounds_toArray, List.set_cons_zero, List.set_cons_succ]
                        refine zDone (by kernel_rfl) ?_ _
                        have TX := Lib.hid (two_next TR9)
                        have RX := hHeld
                        have HN2 : Hid (Scans R (m - 1) (p + q) (k + 1) (l.drop (p + q)) (seen ++ [(p, ((ty : Int), dat))])) := by have h := HNX.out; have hdd : rest.drop q = l.drop (p + q) := (by rw [← HREST.out, List.drop_drop]); rw [hdd] at h; exact h
                        clear hHeld TR9
                        go_wp2
                        go_roundw
                        case rel => exact ⟨p + q, k + 1, m - 1, c8, c9, A8, A9, _, by omega, by omega, by go_num, rfl, rfl, HN2, TX, RX⟩
                        case measure => simp [intOf]; omega
        ·
          refine zOpNew (j := 22) (d := (some 67)) (T := 3) (z := #[.int .i64 (p : Int)]) (val := fun g => .slice (some ⟨g, 0, none⟩) 1 1) rfl rfl (by rfl) ?rz20 (fun gi u19 gi_ge gi_lt BI hb19 => ⟨.inr (hHeld.trans (hb19.mono hHeld.size)), ?tz20⟩)
          case rz20 => go_simp; try with_reducible rfl
          case tz20 =>
            try simp only [Act.put, List.setIfInBounds_toArray, List.set_cons_zero, List.set_cons_succ]
            have TR := TR.stays hb19
            have hHeld := hHeld.trans (hb19.mono hHeld.size)
            clear hb19
            refine zAlone (j := 15) (by kernel_rfl) ?_
            refine zOpNew (j := 15) (d := (some 60)) (T := 23) (z := #[.slice (cutA A c (p + 4)) (q - 4) (c - (p + 4))]) (val := fun g => .slice (some ⟨g, 0, none⟩) 1 1) rfl rfl (by rfl) ?rz21 (fun g1 u20 g1_ge g1_lt B1 hb20 => ⟨.inr (hHeld.trans (hb20.mono hHeld.size)), ?tz21⟩)
            case rz21 => go_simp; try with_reducible rfl
            case tz21 =>
              try simp only [Act.put, List.setIfInBounds_toArray, List.set_cons_zero, List.set_cons_succ]
              have TR := TR.stays hb20
              have BI := BI.stays hb20
              have hHeld := hHeld.trans (hb20.mono hHeld.size)
              clear hb20
              refine zAlone (j := 16) (by kernel_rfl) ?_
              refine zOpCall (j := 16) (d := (some 61)) (R := fun v w' => ∃ Ap cp, v = .slice Ap (q - 4) cp ∧ w'.ownsRow u20.heap.size 5 1 (.slice Ap (q - 4) cp) (q - 4) (([dat] : List (List UInt8)).flatten.map byteV) ∧ Below u20.heap.size u20 w') rfl rfl (by rfl) ?rz22 ((refJoin_any _ _ _ [dat] _ (lists_blk1 B1 (V4.out.below hHeld)) (q - 4) hdl.out (by omega)).mono fun e q hq => by obtain ⟨Ap, cp, h1, h2, h3⟩ := hq; exact ⟨_, h1, Ap, cp, rfl, h2, h3⟩) (fun v u21 hRv => ?tz22)
              case rz22 => go_simp
              case tz22 =>
                obtain ⟨AD, cD, rfl, hD, hb21⟩ := hRv
                refine ⟨.inr (hHeld.trans (hb21.mono hHeld.size)), ?_⟩
                try simp only [Act.put, List.setIfInBounds_toArray, List.set_cons_zero, List.set_cons_succ]
                have O1 : Off AD (q - 4) (Value.slice AO k co).ownBlock := Off.fresh (Fresh.own hD) TR.lt1
                have O2 : Off AD (q - 4) (Value.slice AP k cp).ownBlock := Off.fresh (Fresh.own hD) TR.lt2
                have TR := TR.stays hb21
                have BI := BI.stays hb21
                have HD : Bytes u21 AD (q - 4) cD dat := by have := own_rd hD; simpa [Bytes] using this
                clear hD
                have hHeld := hHeld.trans (hb21.mono hHeld.size)
                clear hb21
                refine zVal (i := 17) (d := (some 62)) (v := ?_) rfl rfl (by kernel_rfl) (by kernel_rfl) (by kernel_rfl) (by kernel_rfl) hPQ (by rfl) (fun wq hSw => ?_) hHeld ?_
                rotate_left 1
                · go_simp; try with_reducible rfl
                try simp only [Act.put, List.setIfInBounds_toArray, List.set_cons_zero, List.set_cons_succ]
                refine zAlone (j := 18) (by kernel_rfl) ?_
                refine zOpNew (j := 18) (d := (some 63)) (T := 38) (z := #[.int .i64 (ty : Int), .slice AD (q - 4) cD]) (val := fun g => .slice (some ⟨g, 0, none⟩) 1 1) rfl rfl (by rfl) ?rz23 (fun gf u22 gf_ge gf_lt BF hb22 => ⟨.inr (hHeld.trans (hb22.mono hHeld.size)), ?tz23⟩)
                case rz23 => go_simp; try with_reducible rfl
                case tz23 =>
                  try simp only [Act.put, List.setIfInBounds_toArray, List.set_cons_zero, List.set_cons_succ]
                  have TR := TR.stays hb22
                  have BI := BI.stays hb22
                  have HD := HD.stays hb22
                  have hHeld := hHeld.trans (hb22.mono hHeld.size)
                  clear hb22
                  refine zAlone (j := 19) (by kernel_rfl) ?_
                  refine zOpApp (j := 19) (d := (some 64)) (R := fun v w' => ∃ A8 c8, v = .slice A8 (k + 1) c8 ∧ TwoRows w' w.heap.size A8 (k + 1) c8 AP k cp (flX seen ++ [((ty : Int), dat)]) (plX seen) ∧ u22.grownBy w' (Value.slice AO k co).ownBlock ∧ Below w.heap.size u22 w') rfl rfl (by rfl) rfl (by rfl) (by rfl) (TR.item BF HD O1 O2 (by omega) hHeld.size _) (fun v u23 hRv => ?tz24)
                  case tz24 =>
                    obtain ⟨A8, c8, rfl, TR8, hg8, hb23⟩ := hRv
                    refine ⟨.inr (hHeld.trans hb23), ?_⟩
                    try simp only [Act.put, List.setIfInBounds_toArray, List.set_cons_zero, List.set_cons_succ]
                    have BI := TR.blk1 BI hg8
                    have hHeld := hHeld.trans hb23
                    have TR := TR8
                    clear TR8 hg8 hb23
                    refine zAlone (j := 23) (by kernel_rfl) ?_
                    refine zOpApp (j := 23) (d := (some 68)) (R := fun v w' => ∃ A9 c9, v = .slice A9 (k + 1) c9 ∧ TwoRows w' w.heap.size A8 (k + 1) c8 A9 (k + 1) c9 (flX seen ++ [((ty : Int), dat)]) (plX seen ++ [p]) ∧ u23.grownBy w' (Value.slice AP k cp).ownBlock ∧ Below w.heap.size u23 w') rfl rfl (by rfl) rfl (by rfl) (by rfl) (TR.place BI (by omega) hHeld.size _) (fun v u24 hRv => ?tz25)
                    case tz25 =>
                      obtain ⟨A9, c9, rfl, TR9, hg9, hb24⟩ := hRv
                      refine ⟨.inr (hHeld.trans hb24), ?_⟩
                      try simp only [Act.put, List.setIfInBounds_toArray, List.set_cons_zero, List.set_cons_succ]
                      have hHeld := hHeld.trans hb24
                      clear hg9 hb24 TR
                      refine zVal (i := 24) (d := (some 5)) (v := ?_) rfl rfl (by kernel_rfl) (by kernel_rfl) (by kernel_rfl) (by kernel_rfl) hPQ (by rfl) (fun wq hSw => ?_) hHeld ?_
                      rotate_left 1
                      · go_simp; try with_reducible rfl
                      try simp only [Act.put, List.setIfInBounds_toArray, List.set_cons_zero, List.set_cons_succ]
                      refine zVal (i := 25) (d := (some 6)) (v := ?_) rfl rfl (by kernel_rfl) (by kernel_rfl) (by kernel_rfl) (by kernel_rfl) hPQ (by rfl) (fun wq hSw => ?_) hHeld ?_
                      rotate_left 1
                      · go_simp; try with_reducible rfl
                      try simp only [Act.put, List.setIfInBounds_toArray, List.set_cons_zero, List.set_cons_succ]
                      refine zDone (by kernel_rfl) ?_ _
                      have TX := Lib.hid (two_next TR9)
                      have RX := hHeld
                      have HN2 : Hid (Scans R (m - 1) (p + q) (k + 1) (l.drop (p + q)) (seen ++ [(p, ((ty : Int), dat))])) := by have h := HNX.out; have hdd : rest.drop q = l.drop (p + q) := (by rw [← HREST.out, List.drop_drop]); rw [hdd] at h; exact h
                      clear hHeld TR9
                      go_wp2
                      go_roundw
                      case rel => exact ⟨p + q, k + 1, m - 1, c8, c9, A8, A9, _, by omega, by omega, by go_num, rfl, rfl, HN2, TX, RX⟩
                      case measure => simp [intOf]; omega
    · obtain rfl : p = n := by omega
      have HF := Lib.hid (HS.out.last (by rw [List.length_drop, HLl.out]; omega))
      have q9 : ¬ (p : Int) < (p : Int) := by omega
      go_wp2
      go_returns
      exact ⟨AO, k, co, AP, k, cp, by rw [HF.out.1]; rfl, by rw [decL, if_pos HF.out.1, HF.out.2]; exact TR.out.flds, by rw [plcL, if_pos HF.out.1, HF.out.2]; exact TR.out.ints, RW.out⟩
set_option maxRecDepth 100000 in
set_option maxHeartbeats 4000000 in
theorem refDecode_any (A : Option Addr) (n c : Nat) (l : List UInt8) (w : World) (hb : Bytes w A n c l) :
    Calls Try.prog 50 #[.slice A n c] w fun e w' => ∃ A' m c', e = .returned (.tuple #[.slice A' m c', .int .i64 (readX l).1]) ∧ FldL w' A' m c' (decL (readX l)) ∧ Below w.heap.size w w' := by
  have HB := Lib.hid hb
  obtain ⟨R, hR⟩ : ∃ R, readX l = R := ⟨_, rfl⟩
  rw [hR]
  have HR := Lib.hid hR
  clear hb hR
  go_enter Try.func50, Try.ntmps50
  go_wp2_with fail
  refine (refWalk_any A n c l _ HB.out).mono ?_
  rw [HR.out]
  rintro e w2 ⟨A1, n1, c1, A2, n2, c2, rfl, h1, h2, hb⟩
  have H1 := Lib.hid h1
  have H2 := Lib.hid h2
  have RB := Lib.hid hb
  clear h1 h2 hb
  go_wp2
  go_returns
  exact ⟨A1, n1, c1, rfl, H1.out, RB.out⟩
set_option maxRecDepth 100000 in
set_option maxHeartbeats 4000000 in
theorem refPlaces_any (A : Option Addr) (n c : Nat) (l : List UInt8) (w : World) (hb : Bytes w A n c l) :
    Calls Try.prog 51 #[.slice A n c] w fun e w' => ∃ A' m c', e = .returned (.tuple #[.slice A' m c', .int .i64 (readX l).1]) ∧ IntsL w' A' m c' (plcL (readX l)) ∧ Below w.heap.size w w' := by
  have HB := Lib.hid hb
  obtain ⟨R, hR⟩ : ∃ R, readX l = R := ⟨_, rfl⟩
  rw [hR]
  have HR := Lib.hid hR
  clear hb hR
  go_enter Try.func51, Try.ntmps51
  go_wp2_with fail
  refine (refWalk_any A n c l _ HB.out).mono ?_
  rw [HR.out]
  rintro e w2 ⟨A1, n1, c1, A2, n2, c2, rfl, h1, h2, hb⟩
  have H1 := Lib.hid h1
  have H2 := Lib.hid h2
  have RB := Lib.hid hb
  clear h1 h2 hb
  go_wp2
  go_returns
  exact ⟨A2, n2, c2, rfl, H2.out, RB.out⟩
end Go.Proofs.Ytofadjcphaehcaa
