/- extension.scan with both visitors; Decode and Places. -/
import Derived.Test.YtofadjcphaehcaaExtB
import Derived.Test.YtofadjcphaehcaaGet
namespace Go.Proofs.Ytofadjcphaehcaa
open Go.RowKit

abbrev FldsA (w : World) (B : Nat) (A : Option Addr) (n c : Nat) (fs : List (Int × List UInt8)) : Prop := OwnItems 2 encFld Prod.snd 38 w B A n c fs
def IntsA (w : World) (B : Nat) (A : Option Addr) (n c : Nat) (l : List Nat) : Prop := w.ownsRow B 3 1 (.slice A n c) n (l.map fun (x : Nat) => Value.int .i64 (x : Int))
theorem infoInt : (Try.prog.info? 3).map (fun i => (i.zero, i.size, i.bytes)) = some (some (.int .i64 0), 1, 8) := by kernel_rfl
/-- The places alone. -/
def plX (l : List (Nat × (Int × List UInt8))) : List Nat := l.map Prod.fst
def flX (l : List (Nat × (Int × List UInt8))) : List (Int × List UInt8) := l.map Prod.snd
theorem one_ints (l : List Nat) : ∀ u ∈ l.map (fun (x : Nat) => Value.int .i64 (x : Int)), u.oneCell' = true := by
  intro u hu
  obtain ⟨x, _, rfl⟩ := List.mem_map.1 hu
  rfl
/-- What scan has still to read. -/
def Scans (R : Int × List (Nat × (Int × List UInt8))) (m p k : Nat) (b : List UInt8) (seen : List (Nat × (Int × List UInt8))) : Prop := b.length ≤ m ∧ (wkX m p k b).1 = R.1 ∧ (R.1 = 0 → seen ++ (wkX m p k b).2 = R.2)
theorem Scans.last {R : Int × List (Nat × (Int × List UInt8))} {m p k : Nat} {b : List UInt8} {seen : List (Nat × (Int × List UInt8))} (h : Scans R m p k b seen) (hb : b.length = 0) : R.1 = 0 ∧ R.2 = seen := by
  obtain ⟨h1, h2, h3⟩ := h
  have : b = [] := List.eq_nil_of_length_eq_zero hb
  subst this
  rw [wkX_nil] at h2 h3
  have h0 : R.1 = 0 := h2.symm
  exact ⟨h0, by have := h3 h0; simpa using this.symm⟩
theorem Scans.bad {R : Int × List (Nat × (Int × List UInt8))} {m p k : Nat} {b : List UInt8} {seen : List (Nat × (Int × List UInt8))} {e : Int} (h : Scans R m p k b seen) (hb : b.length ≠ 0) (he : ∀ m, wkX (m + 1) p k b = (e, [])) : R.1 = e := by
  obtain ⟨h1, h2, h3⟩ := h
  obtain ⟨m, rfl⟩ : ∃ m', m = m' + 1 := ⟨m - 1, by omega⟩
  rw [he] at h2
  exact h2.symm
theorem Scans.next {R : Int × List (Nat × (Int × List UInt8))} {m p k : Nat} {b : List UInt8} {seen : List (Nat × (Int × List UInt8))} (h : Scans R m p k b seen) (h0 : 4 ≤ b.length) (h1 : two (b.drop 2) % 4 = 0) (h2 : 16 ≤ two (b.drop 2)) (h3 : two (b.drop 2) ≤ b.length) (hk : k < 24) :
    Scans R (m - 1) (p + two (b.drop 2)) (k + 1) (b.drop (two (b.drop 2))) (seen ++ [(p, (((two b : Nat) : Int), (b.drop 4).take (two (b.drop 2) - 4)))]) := by
  obtain ⟨g1, g2, g3⟩ := h
  obtain ⟨m, rfl⟩ : ∃ m', m = m' + 1 := ⟨m - 1, by omega⟩
  rw [wkX_step h0 h1 h2 h3 hk] at g2 g3
  refine ⟨by rw [List.length_drop]; omega, g2, fun h => ?_⟩
  rw [← g3 h, List.append_assoc]
  rfl
/-- A row's block is not the block of one cell of another type. -/
theorem own_ne {w : World} {B e size n ob T : Nat} {v : Value} {xs : List Value} {cs : Array Value} (h : w.ownsRow B e size v n xs) (hB : Blk w ob T cs) (hne : e ≠ T) : v.ownBlock ≠ some ob := by
  rcases h.2 with ⟨rfl, _⟩ | ⟨g, cap, cur, rfl, _, hg, _⟩
  · intro h; cases h
  · intro h
    have hgo : g = ob := by simpa [Value.ownBlock] using h
    subst hgo
    have h2 := hg.symm.trans hB
    simp only [Option.some.injEq, Obj.cells.injEq] at h2
    exact hne h2.2.1
theorem Bytes.ne_blk {w : World} {A : Option Addr} {n c ob T : Nat} {l : List UInt8} {a b d : _} (h : Bytes w A n c l) (hB : Blk w ob T #[.slice a b d]) : Off A n (some ob) := by
  intro x hx hn e
  injection e with e
  obtain ⟨b', off, e', hc⟩ := h.at_ hn
  rw [hx] at e'
  injection e' with e'
  subst e'
  simp only [] at e
  subst e
  rw [hB.cell] at hc
  match off, hc with
  | 0, hc => simp at hc
  | k + 1, hc => simp at hc
theorem grown_puts {w wr : World} {g : Nat} (h : w.grownBy wr (some g)) (k : Nat) (v : Value) : w.grownBy (wr.setCell ⟨g, k, none⟩ v) (some g) :=
  ⟨h.os, h.tape, h.output, by have := h.size; simpa [World.setCell] using this, fun j hj hjb => (Below.heap_setCell _ _ _ _ (fun e => hjb (by rw [e]))).trans (h.block j hj hjb)⟩
theorem put_grown {w : World} (ob i : Nat) (v : Value) : w.grownBy (w.setCell ⟨ob, i, none⟩ v) (some ob) := grown_puts (World.grownBy.refl w _) i v
theorem OwnItems.put_off {w : World} {B n c ob T : Nat} {A : Option Addr} {fs : List (Int × List UInt8)} {a b d : _} (h : FldsA w B A n c fs) (hB : Blk w ob T #[.slice a b d]) (hne : 38 ≠ T) (v : Value) : FldsA (w.setCell ⟨ob, 0, none⟩ v) B A n c fs := by
  obtain ⟨vs, h1, h2⟩ := h
  have hg := put_grown (w := w) ob 0 v
  refine ⟨vs, h1.kept hg (.inr (own_ne h1 hB hne)), h2.1, fun i x hx => ?_⟩
  obtain ⟨A', n', c', e1, e2, e3⟩ := h2.2 i x hx
  exact ⟨A', n', c', e1, e2.kept hg (e2.ne_blk hB), e3⟩
theorem ints_put {w : World} {B n c ob T : Nat} {A : Option Addr} {vs : List Value} {cs : Array Value} (h : w.ownsRow B 3 1 (.slice A n c) n vs) (hB : Blk w ob T cs) (hne : 3 ≠ T) (v : Value) : (w.setCell ⟨ob, 0, none⟩ v).ownsRow B 3 1 (.slice A n c) n vs :=
  h.kept (put_grown ob 0 v) (.inr (own_ne h hB hne))
set_option maxRecDepth 100000 in
set_option maxHeartbeats 4000000 in
theorem visD (B ob : Nat) (AO : Option Addr) (mo co : Nat) (fs : List (Int × List UInt8)) (p : Nat) (t : Int) (A' : Option Addr) (n' c' : Nat) (d : List UInt8) (w : World) (hB : Blk w ob 32 #[.slice AO mo co]) (hob : B ≤ ob) (hz : B ≤ w.heap.size) (ho : FldsA w B AO mo co fs) (hd : Bytes w A' n' c' d) (hoff : Off A' n' (Value.slice AO mo co).ownBlock) (hmo : mo ≤ 1000) :
    Calls Try.prog 72 #[.int .i64 p, .agg #[.int .i64 t, .slice A' n' c'], .pointer (some ⟨ob, 0, none⟩)] w fun e w' => e = .returned (.tuple #[]) ∧ ∃ A8 c8, Blk w' ob 32 #[.slice A8 (mo + 1) c8] ∧ FldsA w' B A8 (mo + 1) c8 (fs ++ [(t, d)]) ∧ Below B w w' := by
  obtain ⟨i0, hi, hz0, hz1, hz2⟩ := info_parts infoFld
  have HO := Lib.hid ho
  have HD := Lib.hid hd
  have BO := Lib.hid hB
  have HOF := Lib.hid hoff
  have HZ := Lib.hid (And.intro hz hob)
  have hm1 : mo + 1 ≤ maxLen := by unfold maxLen; omega
  have HM1 := Lib.hid hm1
  have HM := Lib.hid hmo
  have q1 := ho.le
  have q2 := ho.cap
  have q3 : co ≤ 9223372036854775807 := by first | exact q2 | (unfold maxLen at q2; omega)
  have HNE := Lib.hid ((by obtain ⟨vs, h1, _⟩ := ho; exact own_ne h1 hB (by decide) : (Value.slice AO mo co).ownBlock ≠ some ob))
  clear ho hd hB hoff hz hob hm1 hmo q2
  go_enter Try.func72, Try.ntmps72
  have oO := BO.out.lt
  go_upto_region 1 with fail
  obtain ⟨x1, f_, ex1, ef_⟩ : ∃ x1 f_, x1 = w.alloc (.cells #[.int .i64 t, .slice A' n' c'] 38) ∧ f_ = w.heap.size := ⟨_, _, rfl, rfl⟩
  rw [← ex1, ← ef_]
  have hbx : Below w.heap.size w x1 := by rw [ex1]; exact below_alloc1 _ _ 
  have o_O_F : ob < f_ := by rw [ef_]; exact BO.out.lt
  have g_F : w.heap.size ≤ f_ := by rw [ef_]; exact Nat.le_refl _
  have BO := Lib.hid (BO.out.stays hbx)
  have HD := Lib.hid (HD.out.stays hbx)
  have HO := Lib.hid (HO.out.stays hbx)
  have BF := Lib.hid (show Blk x1 f_ 38 #[.int .i64 t, .slice A' n' c'] by rw [ex1, ef_]; exact blk_new1_0 _ _ _ )
  have R2 := Lib.hid hbx
  have hz_x1 := R2.out.size
  clear hbx ex1 ef_
  have kO_0 : x1.cell? ⟨ob, 0, none⟩ = some (.slice AO mo co) := BO.out.cell 0
  have kF_0 : x1.cell? ⟨f_, 0, none⟩ = some (.int .i64 t) := BF.out.cell 0
  have kF_1 : x1.cell? ⟨f_, 1, none⟩ = some (.slice A' n' c') := BF.out.cell 1
  have fO_0 := BO.out.frozen 0
  go_wp2_with (at_builtin; refine wpList_append_items rfl _ _ 32 rfl i0 _ 32 Try.underlying32 hi hz0 hz1 hz2 rfl (by decide) rfl (HO.out.stays (Below.alloc (Below.refl x1.heap.size x1) (Nat.le_refl _) (.cells #[.int .i64 t, .slice A' n' c'] 38))) rfl (t, d) (A1 := A') (n1 := n') (c1 := c') (by simp [encFld]) (rd_pair _ _ _ _) (by simp [encFld, Value.oneCell']) (HD.out.stays (Below.alloc (Below.refl x1.heap.size x1) (Nat.le_refl _) (.cells #[.int .i64 t, .slice A' n' c'] 38))) HOF.out HM1.out (by have := HM.out; omega) (by have := HZ.out.1; have := R2.out.size; simp; omega) ?_; intro A8 c8 w8 hown8 hg8 hb8; have BO8 : Blk w8 ob 32 #[.slice AO mo co] := (BO.out.stays (Below.alloc (Below.refl x1.heap.size x1) (Nat.le_refl _) (.cells #[.int .i64 t, .slice A' n' c'] 38))).grown hg8 HNE.out.symm; have kO : w8.cell? ⟨ob, 0, none⟩ = some (.slice AO mo co) := BO8.cell 0; have fO : w8.frozen? ⟨ob, 0, none⟩ = false := BO8.frozen 0; have lO := BO8.lt; have BO8 := Lib.hid BO8; have HG8 := Lib.hid hg8; have HB8 := Lib.hid hb8; have HO8 := Lib.hid hown8; clear hg8 hb8 hown8)
  clear kO_0 kF_0 kF_1 fO_0
  have hb9 : Below B x1 w8 := ((Below.refl B x1).alloc (by have := HZ.out.1; have := R2.out.size; omega) _).trans HB8.out
  have hb10 := Lib.hid ((R2.out.mono HZ.out.1).trans hb9)
  clear hb9
  go_wp2
  go_returns
  exact ⟨by first | rfl | trivial, A8, c8, BO8.out.put 0 _, HO8.out.put_off BO8.out (by decide) _, hb10.out.setCell (p := ⟨ob, 0, none⟩) HZ.out.2 _⟩
set_option maxRecDepth 100000 in
set_option maxHeartbeats 4000000 in
theorem visP (B ob : Nat) (AO : Option Addr) (mo co : Nat) (fs : List Nat) (p : Nat) (t : Int) (A' : Option Addr) (n' c' : Nat) (d : List UInt8) (w : World) (hB : Blk w ob 34 #[.slice AO mo co]) (hob : B ≤ ob) (hz : B ≤ w.heap.size) (ho : IntsA w B AO mo co fs) (hd : Bytes w A' n' c' d) (hoff : Off A' n' (Value.slice AO mo co).ownBlock) (hmo : mo ≤ 1000) :
    Calls Try.prog 75 #[.int .i64 p, .agg #[.int .i64 t, .slice A' n' c'], .pointer (some ⟨ob, 0, none⟩)] w fun e w' => e = .returned (.tuple #[]) ∧ ∃ A8 c8, Blk w' ob 34 #[.slice A8 (mo + 1) c8] ∧ IntsA w' B A8 (mo + 1) c8 (fs ++ [p]) ∧ Below B w w' := by
  obtain ⟨i0, hi, hz0, hz1, hz2⟩ := info_parts infoInt
  have HO := Lib.hid ho
  have HD := Lib.hid hd
  have BO := Lib.hid hB
  have HOF := Lib.hid hoff
  have HZ := Lib.hid (And.intro hz hob)
  have hm1 : mo + 1 ≤ maxLen := by unfold maxLen; omega
  have HM1 := Lib.hid hm1
  have HM := Lib.hid hmo
  have q1 := (own_rd ho).2.1
  have q2 := (own_rd ho).2.2.1
  have q3 : co ≤ 9223372036854775807 := by first | exact q2 | (unfold maxLen at q2; omega)
  have HNE := Lib.hid (own_ne ho hB (by decide))
  clear ho hd hB hoff hz hob hm1 hmo q2
  go_enter Try.func75, Try.ntmps75
  have oO := BO.out.lt
  go_upto_region 1 with fail
  obtain ⟨x1, f_, ex1, ef_⟩ : ∃ x1 f_, x1 = w.alloc (.cells #[.int .i64 t, .slice A' n' c'] 38) ∧ f_ = w.heap.size := ⟨_, _, rfl, rfl⟩
  rw [← ex1, ← ef_]
  have hbx : Below w.heap.size w x1 := by rw [ex1]; exact below_alloc1 _ _ 
  have o_O_F : ob < f_ := by rw [ef_]; exact BO.out.lt
  have g_F : w.heap.size ≤ f_ := by rw [ef_]; exact Nat.le_refl _
  have BO := Lib.hid (BO.out.stays hbx)
  have HD := Lib.hid (HD.out.stays hbx)
  have HO := Lib.hid (own_below HO.out hbx)
  have BF := Lib.hid (show Blk x1 f_ 38 #[.int .i64 t, .slice A' n' c'] by rw [ex1, ef_]; exact blk_new1_0 _ _ _ )
  have R2 := Lib.hid hbx
  have hz_x1 := R2.out.size
  clear hbx ex1 ef_
  have kO_0 : x1.cell? ⟨ob, 0, none⟩ = some (.slice AO mo co) := BO.out.cell 0
  have kF_0 : x1.cell? ⟨f_, 0, none⟩ = some (.int .i64 t) := BF.out.cell 0
  have kF_1 : x1.cell? ⟨f_, 1, none⟩ = some (.slice A' n' c') := BF.out.cell 1
  have fO_0 := BO.out.frozen 0
  go_wp2_with (at_builtin; refine wpList_append_rd rfl _ _ 34 rfl i0 (.int .i64 0) 8 Try.underlying34 hi hz0 hz1 hz2 rfl (by decide) rfl (own_below HO.out (Below.alloc (Below.refl x1.heap.size x1) (Nat.le_refl _) (.cells #[.int .i64 p] 3))) rfl (rd_one _ (.int .i64 (p : Int)) _) (by intro u hu; simp at hu; subst hu; rfl) HM1.out (by have := HM.out; omega) (by have := HZ.out.1; have := R2.out.size; simp; omega) ?_; intro A8 c8 w8 hown8 hg8 hb8; have BO8 : Blk w8 ob 34 #[.slice AO mo co] := (BO.out.stays (Below.alloc (Below.refl x1.heap.size x1) (Nat.le_refl _) (.cells #[.int .i64 p] 3))).grown hg8 HNE.out.symm; have kO : w8.cell? ⟨ob, 0, none⟩ = some (.slice AO mo co) := BO8.cell 0; have fO : w8.frozen? ⟨ob, 0, none⟩ = false := BO8.frozen 0; have lO := BO8.lt; have BO8 := Lib.hid BO8; have HG8 := Lib.hid hg8; have HB8 := Lib.hid hb8; have HO8 := Lib.hid hown8; clear hg8 hb8 hown8)
  clear kO_0 kF_0 kF_1 fO_0
  have hb9 : Below B x1 w8 := ((Below.refl B x1).alloc (by have := HZ.out.1; have := R2.out.size; omega) _).trans HB8.out
  have hb10 := Lib.hid ((R2.out.mono HZ.out.1).trans hb9)
  clear hb9
  go_wp2
  go_returns
  exact ⟨by first | rfl | trivial, A8, c8, BO8.out.put 0 _, (by unfold IntsA; rw [List.map_append]; exact ints_put HO8.out BO8.out (by decide) _), hb10.out.setCell (p := ⟨ob, 0, none⟩) HZ.out.2 _⟩
theorem Bytes.below {w0 w : World} {A : Option Addr} {n c : Nat} {l : List UInt8} (h : Bytes w0 A n c l) (hb : Below w0.heap.size w0 w) : Bytes w A n c l := h.stays hb
theorem get2_any (A : Option Addr) (c : Nat) (l : List UInt8) (ty : Nat) (w : World) (h : Bytes w A 2 c l) (he : be64 l 2 = ty) :
    Calls Try.prog 16 #[.slice A 2 c] w fun e w' => e = .returned (.int .u64 ty) ∧ w = w' := by
  subst he
  exact get_any A 2 c l w h
def PostscanD (ob : Nat) (w0 : World) (R : Int × List (Nat × (Int × List UInt8))) (w' : World) : Prop := ∃ (AO : Option Addr) (mo co : Nat) (fs' : List (Int × List UInt8)), Blk w' ob 32 #[.slice AO mo co] ∧ FldsA w' w0.heap.size AO mo co fs' ∧ (R.1 = 0 → fs' = flX R.2) ∧ Below w0.heap.size w0 w'
set_option maxRecDepth 100000 in
set_option maxHeartbeats 4000000 in
theorem scanD (ob : Nat) (A : Option Addr) (n c : Nat) (l : List UInt8) (w0 w : World) (hb : Bytes w0 A n c l) (hbw : Below w0.heap.size w0 w) (hB : Blk w ob 32 #[.slice none 0 0]) (hob : w0.heap.size ≤ ob) :
    Calls Try.prog 71 #[.slice A n c, .func (.func 72) #[] #[.pointer (some ⟨ob, 0, none⟩)]] w fun e w' => e = .returned (.int .i64 (readX l).1) ∧ PostscanD ob w0 (readX l) w' := by
  obtain ⟨R, hR⟩ : ∃ R, readX l = R := ⟨_, rfl⟩
  rw [hR]
  have HR := Lib.hid hR
  have hcap := hb.cap
  have hle := hb.le
  have HB := Lib.hid hb
  have HLl := Lib.hid hb.len
  have HW := Lib.hid hbw
  have BO := Lib.hid hB
  have HOB := Lib.hid hob
  clear hb hbw hB hob hR
  by_cases hbig : 1232 < n
  ·
    have q1 : (1232 : Int) < (n : Int) := by omega
    have HE : Hid (R = (2, [])) := by rw [Hid, ← HR.out, readX, if_pos (by rw [HLl.out]; exact hbig)]
    go_enter Try.func71, Try.ntmps71
    go_wp2
    go_returns
    exact ⟨by rw [HE.out]; rfl, none, 0, 0, [], BO.out, OwnItems.nil _ _, (fun h => (by rw [HE.out] at h; cases h)), HW.out⟩
  have q1 : ¬ (1232 : Int) < (n : Int) := by omega
  have HS0 : Hid (Scans R n 0 0 l []) := by
    have e : R = wkX n 0 0 l := by rw [← HR.out, readX, if_neg (by rw [HLl.out]; exact hbig), HLl.out]
    exact ⟨by rw [HLl.out]; exact Nat.le_refl _, by rw [e], fun _ => by rw [e]; rfl⟩
  go_enter Try.func71, Try.ntmps71
  go_wp2_with fail
  go_loopw [5, 6] (fun pv kv wr => ∃ (p k m co : Nat) (AO : Option Addr) (seen : List (Nat × (Int × List UInt8))), p ≤ n ∧ k ≤ 24 ∧ pv = .int .i64 p ∧ kv = .int .i64 k ∧ Hid (Scans R m p k (l.drop p) seen) ∧ Hid (Blk wr ob 32 #[.slice AO k co]) ∧ Hid (FldsA wr w0.heap.size AO k co (flX seen)) ∧ Below w0.heap.size w0 wr) (fun pv _ _ => n - (intOf pv).toNat)
  case atStart => exact ⟨0, 0, n, 0, none, [], Nat.zero_le _, by decide, rfl, rfl, HS0, BO, OwnItems.nil _ _, HW.out⟩
  case round =>
    clear BO HW HS0
    obtain ⟨p, k, m, co, AO, seen, hp, hk24, rfl, rfl, HS, BO, HO, hbr⟩ := hrel
    have RW := Lib.hid hbr
    have hz_wr := hbr.size
    by_cases hpn : p < n
    ·
      obtain ⟨d, hd⟩ : ∃ d, n - p = d := ⟨_, rfl⟩
      have hd0 : 0 < d := by omega
      have hdn1 : p + d ≤ n := by omega
      have hdn2 : n ≤ p + d := by omega
      have s1 := run_cutFrom und_bytes size_byte (A := A) (n := n) (c := c) (p : Int) p d (c - p) rfl (by omega) hd rfl
      have V0 := Lib.hid (HB.out.cutFrom p (by omega) (d := d) (k := c - p) hd rfl)
      have HLR := Lib.hid V0.out.len
      obtain ⟨rest, hrest⟩ : ∃ rest, l.drop p = rest := ⟨_, rfl⟩
      rw [hrest] at V0 HLR HS
      obtain ⟨AR, hAR⟩ : ∃ AR, cutA A c p = AR := ⟨_, rfl⟩
      rw [hAR] at s1 V0
      obtain ⟨cr, hcr⟩ : ∃ cr, c - p = cr := ⟨_, rfl⟩
      rw [hcr] at s1 V0
      have hcd : d ≤ cr := by omega
      have hcr2 : cr ≤ 9223372036854775807 := by omega
      have HREST := Lib.hid hrest
      have hpi : (p : Int) < (n : Int) := by omega
      clear hAR hrest hd hcr hbr
      by_cases h4 : d < 4
      ·
        have h4i : (d : Int) < 4 := by omega
        have HN := Lib.hid (HS.out.bad (by rw [HLR.out]; omega) (e := 1) (fun m => wkX_short (by rw [HLR.out]; omega) (by rw [HLR.out]; exact h4)))
        go_wp2
        go_returns
        exact ⟨by rw [HN.out]; rfl, AO, k, co, flX seen, BO.out, HO.out, (fun h => (by rw [HN.out] at h; cases h)), RW.out⟩
      have h4i : ¬ (d : Int) < 4 := by omega
      have s2 := run_cut und_bytes size_byte (A := AR) (n := d) (c := cr) 2 4 2 4 2 (cr - 2) rfl rfl (by omega) (by omega) rfl rfl
      have V2 := Lib.hid (V0.out.cutS 2 4 (by omega) (by omega) (d := 2) (k := cr - 2) rfl rfl)
      obtain ⟨q, hq⟩ : ∃ q, two (rest.drop 2) = q := ⟨_, rfl⟩
      obtain ⟨ty, hty⟩ : ∃ ty, two rest = ty := ⟨_, rfl⟩
      have q5 : q < 65536 := by rw [← hq]; exact two_lt _ (by rw [List.length_drop, HLR.out]; omega)
      have t5 : ty < 65536 := by rw [← hty]; exact two_lt _ (by rw [HLR.out]; omega)
      have E1 : Hid (be64 ((rest.drop 2).take 2) 2 = q) := hq
      have E2 : Hid (be64 (rest.take 2) 2 = ty) := hty
      have HQ := Lib.hid hq
      have HT := Lib.hid hty
      clear hq hty
      have wq : IntKind.i64.wrap (q : Int) = (q : Int) := IntWalk.i64_in _ (by omega)
      have wt : IntKind.i64.wrap (ty : Int) = (ty : Int) := IntWalk.i64_in _ (by omega)
      obtain ⟨r4, hr4⟩ : ∃ r4, q % 4 = r4 := ⟨_, rfl⟩
      have er : (q : Int) % 4 = (r4 : Int) := by omega
      by_cases hf : ¬ r4 = 0
      ·
        have e1 : ((r4 : Int) == 0) = false := by simp; omega
        have e2 : ((r4 : Int) != 0) = true := by simp [bne, e1]
        have HN := Lib.hid (HS.out.bad (by rw [HLR.out]; omega) (e := 3) (fun m => wkX_form (by rw [HLR.out]; omega) (.inl (by rw [HQ.out]; omega))))
        clear hf hr4
        go_wp2_with fail
        refine (get2_any _ _ _ _ _ (V2.out.below RW.out) E1.out).mono ?_
        rintro e wx ⟨rfl, rfl⟩
        go_wp2
        go_returns
        exact ⟨by rw [HN.out]; rfl, AO, k, co, flX seen, BO.out, HO.out, (fun h => (by rw [HN.out] at h; cases h)), RW.out⟩
      obtain rfl : r4 = 0 := by omega
      clear hf
      by_cases h16 : q < 16
      ·
        have e1 : (q : Int) < 16 := by omega
        have HN := Lib.hid (HS.out.bad (by rw [HLR.out]; omega) (e := 3) (fun m => wkX_form (by rw [HLR.out]; omega) (.inr (by rw [HQ.out]; omega))))
        go_wp2_with fail
        refine (get2_any _ _ _ _ _ (V2.out.below RW.out) E1.out).mono ?_
        rintro e wx ⟨rfl, rfl⟩
        go_wp2
        go_returns
        exact ⟨by rw [HN.out]; rfl, AO, k, co, flX seen, BO.out, HO.out, (fun h => (by rw [HN.out] at h; cases h)), RW.out⟩
      have e16 : ¬ (q : Int) < 16 := by omega
      by_cases hqd : d < q
      ·
        have e1 : (d : Int) < (q : Int) := by omega
        have HN := Lib.hid (HS.out.bad (by rw [HLR.out]; omega) (e := 1) (fun m => wkX_less (by rw [HLR.out]; omega) (by rw [HQ.out]; omega) (by rw [HQ.out]; omega) (by rw [HLR.out, HQ.out]; omega)))
        go_wp2_with fail
        refine (get2_any _ _ _ _ _ (V2.out.below RW.out) E1.out).mono ?_
        rintro e wx ⟨rfl, rfl⟩
        go_wp2
        go_returns
        exact ⟨by rw [HN.out]; rfl, AO, k, co, flX seen, BO.out, HO.out, (fun h => (by rw [HN.out] at h; cases h)), RW.out⟩
      have eqd : ¬ (d : Int) < (q : Int) := by omega
      by_cases hk : k = 24
      ·
        have HN := Lib.hid (HS.out.bad (by rw [HLR.out]; omega) (e := 8) (fun m => wkX_limit (by rw [HLR.out]; omega) (by rw [HQ.out]; omega) (by rw [HQ.out]; omega) (by rw [HLR.out, HQ.out]; omega) hk))
        subst hk
        go_wp2_with fail
        refine (get2_any _ _ _ _ _ (V2.out.below RW.out) E1.out).mono ?_
        rintro e wx ⟨rfl, rfl⟩
        go_wp2
        go_returns
        exact ⟨by rw [HN.out]; rfl, AO, 24, co, flX seen, BO.out, HO.out, (fun h => (by rw [HN.out] at h; cases h)), RW.out⟩
      have ek : ((k : Int) == 24) = false := by simp; omega
      have HNX := Lib.hid (HS.out.next (by rw [HLR.out]; omega) (by rw [HQ.out]; omega) (by rw [HQ.out]; omega) (by rw [HLR.out, HQ.out]; omega) (by omega))
      rw [HQ.out, HT.out] at HNX
      have hdq : q ≤ d := by omega
      have s3 := run_cut und_bytes size_byte (A := AR) (n := d) (c := cr) 4 (q : Int) 4 q (q - 4) (cr - 4) rfl rfl (by omega) (by omega) rfl rfl
      have V3 := Lib.hid (V0.out.cutTo 2 (by omega))
      have V4 := Lib.hid (V0.out.cutS 4 q (by omega) (by omega) (d := q - 4) (k := cr - 4) rfl rfl)
      have p2 : (2 : Int) ≤ (cr : Int) := by omega
      go_wp2_with fail
      refine (get2_any _ _ _ _ _ (V2.out.below RW.out) E1.out).mono ?_
      rintro e wx ⟨rfl, rfl⟩
      go_upto_region 16 with fail
      refine zBegin (Z := []) (S := fun w' => Below w0.heap.size w0 w') (by kernel_rfl) ?pz1 (RW.out.drew) (fun hPQ wd hbd hHeld => ?sz1)
      case pz1 => (repeat (with_reducible first | refine PQ.then ?_ | refine PQ.block ?_)); exact fun _ _ d _ _ h => by cases d <;> exact h
      case sz1 =>
        have BO := Lib.hid (BO.out.stays hbd)
        have HO := Lib.hid (HO.out.stays hbd)
        clear hbd
        refine zVal (i := 0) (d := (some 44)) (v := ?_) rfl rfl (by kernel_rfl) (by kernel_rfl) (by kernel_rfl) (by kernel_rfl) hPQ (by rfl) (fun wq hSw => ?_) hHeld ?_
        rotate_left 1
        · go_simp; try with_reducible rfl
        try simp only [Act.put, List.setIfInBounds_toArray, List.set_cons_zero, List.set_cons_succ]
        refine zVal (i := 1) (d := (some 45)) (v := ?_) rfl rfl (by kernel_rfl) (by kernel_rfl) (by kernel_rfl) (by kernel_rfl) hPQ (by rfl) (fun wq hSw => ?_) hHeld ?_
        rotate_left 1
        · go_simp; try with_reducible rfl
        try simp only [Act.put, List.setIfInBounds_toArray, List.set_cons_zero, List.set_cons_succ]
        refine zVal (i := 2) (d := (some 46)) (v := ?_) rfl rfl (by kernel_rfl) (by kernel_rfl) (by kernel_rfl) (by kernel_rfl) hPQ (by rfl) (fun wq hSw => ?_) hHeld ?_
        rotate_left 1
        · go_simp; try with_reducible rfl
        try simp only [Act.put, List.setIfInBounds_toArray, List.set_cons_zero, List.set_cons_succ]
        refine zVal (i := 3) (d := (some 47)) (v := ?_) rfl rfl (by kernel_rfl) (by kernel_rfl) (by kernel_rfl) (by kernel_rfl) hPQ (by rfl) (fun wq hSw => ?_) hHeld ?_
        rotate_left 1
        · go_simp; try with_reducible rfl
        try simp only [Act.put, List.setIfInBounds_toArray, List.set_cons_zero, List.set_cons_succ]
        refine zVal (i := 6) (d := (some 50)) (v := ?_) rfl rfl (by kernel_rfl) (by kernel_rfl) (by kernel_rfl) (by kernel_rfl) hPQ (by rfl) (fun wq hSw => ?_) hHeld ?_
        rotate_left 1
        · go_simp; try with_reducible rfl
        try simp only [Act.put, List.setIfInBounds_toArray, List.set_cons_zero, List.set_cons_succ]
        refine zVal (i := 7) (d := (some 51)) (v := ?_) rfl rfl (by kernel_rfl) (by kernel_rfl) (by kernel_rfl) (by kernel_rfl) hPQ (by rfl) (fun wq hSw => ?_) hHeld ?_
        rotate_left 1
        · go_simp; try with_reducible rfl
        try simp only [Act.put, List.setIfInBounds_toArray, List.set_cons_zero, List.set_cons_succ]
        refine zVal (i := 8) (d := (some 52)) (v := ?_) rfl rfl (by kernel_rfl) (by kernel_rfl) (by kernel_rfl) (by kernel_rfl) hPQ (by rfl) (fun wq hSw => ?_) hHeld ?_
        rotate_left 1
        · go_simp; try with_reducible rfl
        try simp only [Act.put, List.setIfInBounds_toArray, List.set_cons_zero, List.set_cons_succ]
        refine zCall (i := 4) (d := (some 48)) rfl rfl (by kernel_rfl) (by kernel_rfl) (by kernel_rfl) (by kernel_rfl) hPQ (by rfl) (fun wq hSw => (get2_any _ _ _ _ _ (V3.out.below hSw) E2.out).mono (fun e q hq => ⟨hq.1, by first | exact hq.2 | exact hq.2.symm⟩)) (fun wq hSw => ?_) hHeld ?_
        · go_simp
        try simp only [Act.put, List.setIfInBounds_toArray, List.set_cons_zero, List.set_cons_succ]
        refine zVal (i := 5) (d := (some 49)) (v := ?_) rfl rfl (by kernel_rfl) (by kernel_rfl) (by kernel_rfl) (by kernel_rfl) hPQ (by rfl) (fun wq hSw => ?_) hHeld ?_
        rotate_left 1
        · go_simp; try with_reducible rfl
        try simp only [Act.put, List.setIfInBounds_toArray, List.set_cons_zero, List.set_cons_succ]
        refine zAlone (j := 9) (by kernel_rfl) ?_
        refine zOpCall (j := 9) (d := (some 53)) (R := fun v w' => ∃ Ap cp, v = .slice Ap (q - 4) cp ∧ w'.ownsRow wd.heap.size 5 1 (.slice Ap (q - 4) cp) (q - 4) (((rest.drop 4).take (q - 4)).map byteV) ∧ Below wd.heap.size wd w') rfl rfl (by rfl) ?rz2 ((clone_any _ _ _ _ _ (V4.out.below hHeld) (by omega)).mono fun e q hq => by obtain ⟨Ap, cp, h1, h2, h3⟩ := hq; exact ⟨_, h1, Ap, cp, rfl, h2, h3⟩) (fun v u1 hRv => ?tz2)
        case rz2 => go_simp
        case tz2 =>
          obtain ⟨AD, cD, rfl, hD, hb1⟩ := hRv
          refine ⟨.inr (hHeld.trans (hb1.mono hHeld.size)), ?_⟩
          try simp only [Act.put, List.setIfInBounds_toArray, List.set_cons_zero, List.set_cons_succ]
          have hH1 := hHeld.trans (hb1.mono hHeld.size)
          have HOF : Off AD (q - 4) (Value.slice AO k co).ownBlock := Off.fresh (Fresh.own hD) (HO.out.lt)
          have BO := Lib.hid (BO.out.stays hb1)
          have HO := Lib.hid (HO.out.stays hb1)
          have hHeld := hH1
          clear hb1 hH1
          refine zVal (i := 10) (d := (some 54)) (v := ?_) rfl rfl (by kernel_rfl) (by kernel_rfl) (by kernel_rfl) (by kernel_rfl) hPQ (by rfl) (fun wq hSw => ?_) hHeld ?_
          rotate_left 1
          · go_simp; try with_reducible rfl
          try simp only [Act.put, List.setIfInBounds_toArray, List.set_cons_zero, List.set_cons_succ]
          refine zAlone (j := 11) (by kernel_rfl) ?_
          refine zOpCall (j := 11) (d := (some 55)) (R := fun v w' => v = .tuple #[] ∧ ∃ A8 c8, Blk w' ob 32 #[.slice A8 (k + 1) c8] ∧ FldsA w' w0.heap.size A8 (k + 1) c8 (flX seen ++ [((ty : Int), (rest.drop 4).take (q - 4))]) ∧ Below w0.heap.size u1 w') rfl rfl (by rfl) ?rz3 ((visD w0.heap.size ob AO k co (flX seen) p (ty : Int) AD (q - 4) cD ((rest.drop 4).take (q - 4)) _ BO.out HOB.out hHeld.size HO.out (own_rd hD) HOF (by omega)).mono fun e q hq => by obtain ⟨h1, A8, c8, h2, h3, h4⟩ := hq; exact ⟨_, h1, rfl, A8, c8, h2, h3, h4⟩) (fun v u2 hRv => ?tz3)
          case rz3 => go_simp
          case tz3 =>
            obtain ⟨rfl, A8, c8, hB8, hO8, hb2⟩ := hRv
            refine ⟨.inr (hHeld.trans hb2), ?_⟩
            try simp only [Act.put, List.setIfInBounds_toArray, List.set_cons_zero, List.set_cons_succ]
            have R2 := hHeld.trans hb2
            have B2 := Lib.hid hB8
            have O2 : Hid (FldsA u2 w0.heap.size A8 (k + 1) c8 (flX (seen ++ [(p, ((ty : Int), (rest.drop 4).take (q - 4)))]))) := by rw [Hid]; simpa [flX] using hO8
            have HN2 : Hid (Scans R (m - 1) (p + q) (k + 1) (l.drop (p + q)) (seen ++ [(p, ((ty : Int), (rest.drop 4).take (q - 4)))])) := by have h := HNX.out; have hdd : rest.drop q = l.drop (p + q) := (by rw [← HREST.out, List.drop_drop]); rw [hdd] at h; exact h
            clear hHeld hb2 hB8 hO8 HOF hD
            refine zDone (by kernel_rfl) ?_ _
            go_wp2
            go_roundw
            case rel => exact ⟨p + q, k + 1, m - 1, c8, A8, _, by omega, by omega, by go_num, by go_num, HN2, B2, O2, R2⟩
            case measure => simp [intOf]; omega
    · obtain rfl : p = n := by omega
      have HF := Lib.hid (HS.out.last (by rw [List.length_drop, HLl.out]; omega))
      have q9 : ¬ (p : Int) < (p : Int) := by omega
      go_wp2
      go_returns
      exact ⟨by rw [HF.out.1]; rfl, AO, k, co, flX seen, BO.out, HO.out, (fun _ => (by rw [HF.out.2])), RW.out⟩
def PostscanP (ob : Nat) (w0 : World) (R : Int × List (Nat × (Int × List UInt8))) (w' : World) : Prop := ∃ (AO : Option Addr) (mo co : Nat) (fs' : List Nat), Blk w' ob 34 #[.slice AO mo co] ∧ IntsA w' w0.heap.size AO mo co fs' ∧ (R.1 = 0 → fs' = plX R.2) ∧ Below w0.heap.size w0 w'
set_option maxRecDepth 100000 in
set_option maxHeartbeats 4000000 in
theorem scanP (ob : Nat) (A : Option Addr) (n c : Nat) (l : List UInt8) (w0 w : World) (hb : Bytes w0 A n c l) (hbw : Below w0.heap.size w0 w) (hB : Blk w ob 34 #[.slice none 0 0]) (hob : w0.heap.size ≤ ob) :
    Calls Try.prog 71 #[.slice A n c, .func (.func 75) #[] #[.pointer (some ⟨ob, 0, none⟩)]] w fun e w' => e = .returned (.int .i64 (readX l).1) ∧ PostscanP ob w0 (readX l) w' := by
  obtain ⟨R, hR⟩ : ∃ R, readX l = R := ⟨_, rfl⟩
  rw [hR]
  have HR := Lib.hid hR
  have hcap := hb.cap
  have hle := hb.le
  have HB := Lib.hid hb
  have HLl := Lib.hid hb.len
  have HW := Lib.hid hbw
  have BO := Lib.hid hB
  have HOB := Lib.hid hob
  clear hb hbw hB hob hR
  by_cases hbig : 1232 < n
  ·
    have q1 : (1232 : Int) < (n : Int) := by omega
    have HE : Hid (R = (2, [])) := by rw [Hid, ← HR.out, readX, if_pos (by rw [HLl.out]; exact hbig)]
    go_enter Try.func71, Try.ntmps71
    go_wp2
    go_returns
    exact ⟨by rw [HE.out]; rfl, none, 0, 0, [], BO.out, own_nil _ _ _ _, (fun h => (by rw [HE.out] at h; cases h)), HW.out⟩
  have q1 : ¬ (1232 : Int) < (n : Int) := by omega
  have HS0 : Hid (Scans R n 0 0 l []) := by
    have e : R = wkX n 0 0 l := by rw [← HR.out, readX, if_neg (by rw [HLl.out]; exact hbig), HLl.out]
    exact ⟨by rw [HLl.out]; exact Nat.le_refl _, by rw [e], fun _ => by rw [e]; rfl⟩
  go_enter Try.func71, Try.ntmps71
  go_wp2_with fail
  go_loopw [5, 6] (fun pv kv wr => ∃ (p k m co : Nat) (AO : Option Addr) (seen : List (Nat × (Int × List UInt8))), p ≤ n ∧ k ≤ 24 ∧ pv = .int .i64 p ∧ kv = .int .i64 k ∧ Hid (Scans R m p k (l.drop p) seen) ∧ Hid (Blk wr ob 34 #[.slice AO k co]) ∧ Hid (IntsA wr w0.heap.size AO k co (plX seen)) ∧ Below w0.heap.size w0 wr) (fun pv _ _ => n - (intOf pv).toNat)
  case atStart => exact ⟨0, 0, n, 0, none, [], Nat.zero_le _, by decide, rfl, rfl, HS0, BO, own_nil _ _ _ _, HW.out⟩
  case round =>
    clear BO HW HS0
    obtain ⟨p, k, m, co, AO, seen, hp, hk24, rfl, rfl, HS, BO, HO, hbr⟩ := hrel
    have RW := Lib.hid hbr
    have hz_wr := hbr.size
    by_cases hpn : p < n
    ·
      obtain ⟨d, hd⟩ : ∃ d, n - p = d := ⟨_, rfl⟩
      have hd0 : 0 < d := by omega
      have hdn1 : p + d ≤ n := by omega
      have hdn2 : n ≤ p + d := by omega
      have s1 := run_cutFrom und_bytes size_byte (A := A) (n := n) (c := c) (p : Int) p d (c - p) rfl (by omega) hd rfl
      have V0 := Lib.hid (HB.out.cutFrom p (by omega) (d := d) (k := c - p) hd rfl)
      have HLR := Lib.hid V0.out.len
      obtain ⟨rest, hrest⟩ : ∃ rest, l.drop p = rest := ⟨_, rfl⟩
      rw [hrest] at V0 HLR HS
      obtain ⟨AR, hAR⟩ : ∃ AR, cutA A c p = AR := ⟨_, rfl⟩
      rw [hAR] at s1 V0
      obtain ⟨cr, hcr⟩ : ∃ cr, c - p = cr := ⟨_, rfl⟩
      rw [hcr] at s1 V0
      have hcd : d ≤ cr := by omega
      have hcr2 : cr ≤ 9223372036854775807 := by omega
      have HREST := Lib.hid hrest
      have hpi : (p : Int) < (n : Int) := by omega
      clear hAR hrest hd hcr hbr
      by_cases h4 : d < 4
      ·
        have h4i : (d : Int) < 4 := by omega
        have HN := Lib.hid (HS.out.bad (by rw [HLR.out]; omega) (e := 1) (fun m => wkX_short (by rw [HLR.out]; omega) (by rw [HLR.out]; exact h4)))
        go_wp2
        go_returns
        exact ⟨by rw [HN.out]; rfl, AO, k, co, plX seen, BO.out, HO.out, (fun h => (by rw [HN.out] at h; cases h)), RW.out⟩
      have h4i : ¬ (d : Int) < 4 := by omega
      have s2 := run_cut und_bytes size_byte (A := AR) (n := d) (c := cr) 2 4 2 4 2 (cr - 2) rfl rfl (by omega) (by omega) rfl rfl
      have V2 := Lib.hid (V0.out.cutS 2 4 (by omega) (by omega) (d := 2) (k := cr - 2) rfl rfl)
      obtain ⟨q, hq⟩ : ∃ q, two (rest.drop 2) = q := ⟨_, rfl⟩
      obtain ⟨ty, hty⟩ : ∃ ty, two rest = ty := ⟨_, rfl⟩
      have q5 : q < 65536 := by rw [← hq]; exact two_lt _ (by rw [List.length_drop, HLR.out]; omega)
      have t5 : ty < 65536 := by rw [← hty]; exact two_lt _ (by rw [HLR.out]; omega)
      have E1 : Hid (be64 ((rest.drop 2).take 2) 2 = q) := hq
      have E2 : Hid (be64 (rest.take 2) 2 = ty) := hty
      have HQ := Lib.hid hq
      have HT := Lib.hid hty
      clear hq hty
      have wq : IntKind.i64.wrap (q : Int) = (q : Int) := IntWalk.i64_in _ (by omega)
      have wt : IntKind.i64.wrap (ty : Int) = (ty : Int) := IntWalk.i64_in _ (by omega)
      obtain ⟨r4, hr4⟩ : ∃ r4, q % 4 = r4 := ⟨_, rfl⟩
      have er : (q : Int) % 4 = (r4 : Int) := by omega
      by_cases hf : ¬ r4 = 0
      ·
        have e1 : ((r4 : Int) == 0) = false := by simp; omega
        have e2 : ((r4 : Int) != 0) = true := by simp [bne, e1]
        have HN := Lib.hid (HS.out.bad (by rw [HLR.out]; omega) (e := 3) (fun m => wkX_form (by rw [HLR.out]; omega) (.inl (by rw [HQ.out]; omega))))
        clear hf hr4
        go_wp2_with fail
        refine (get2_any _ _ _ _ _ (V2.out.below RW.out) E1.out).mono ?_
        rintro e wx ⟨rfl, rfl⟩
        go_wp2
        go_returns
        exact ⟨by rw [HN.out]; rfl, AO, k, co, plX seen, BO.out, HO.out, (fun h => (by rw [HN.out] at h; cases h)), RW.out⟩
      obtain rfl : r4 = 0 := by omega
      clear hf
      by_cases h16 : q < 16
      ·
        have e1 : (q : Int) < 16 := by omega
        have HN := Lib.hid (HS.out.bad (by rw [HLR.out]; omega) (e := 3) (fun m => wkX_form (by rw [HLR.out]; omega) (.inr (by rw [HQ.out]; omega))))
        go_wp2_with fail
        refine (get2_any _ _ _ _ _ (V2.out.below RW.out) E1.out).mono ?_
        rintro e wx ⟨rfl, rfl⟩
        go_wp2
        go_returns
        exact ⟨by rw [HN.out]; rfl, AO, k, co, plX seen, BO.out, HO.out, (fun h => (by rw [HN.out] at h; cases h)), RW.out⟩
      have e16 : ¬ (q : Int) < 16 := by omega
      by_cases hqd : d < q
      ·
        have e1 : (d : Int) < (q : Int) := by omega
        have HN := Lib.hid (HS.out.bad (by rw [HLR.out]; omega) (e := 1) (fun m => wkX_less (by rw [HLR.out]; omega) (by rw [HQ.out]; omega) (by rw [HQ.out]; omega) (by rw [HLR.out, HQ.out]; omega)))
        go_wp2_with fail
        refine (get2_any _ _ _ _ _ (V2.out.below RW.out) E1.out).mono ?_
        rintro e wx ⟨rfl, rfl⟩
        go_wp2
        go_returns
        exact ⟨by rw [HN.out]; rfl, AO, k, co, plX seen, BO.out, HO.out, (fun h => (by rw [HN.out] at h; cases h)), RW.out⟩
      have eqd : ¬ (d : Int) < (q : Int) := by omega
      by_cases hk : k = 24
      ·
        have HN := Lib.hid (HS.out.bad (by rw [HLR.out]; omega) (e := 8) (fun m => wkX_limit (by rw [HLR.out]; omega) (by rw [HQ.out]; omega) (by rw [HQ.out]; omega) (by rw [HLR.out, HQ.out]; omega) hk))
        subst hk
        go_wp2_with fail
        refine (get2_any _ _ _ _ _ (V2.out.below RW.out) E1.out).mono ?_
        rintro e wx ⟨rfl, rfl⟩
        go_wp2
        go_returns
        exact ⟨by rw [HN.out]; rfl, AO, 24, co, plX seen, BO.out, HO.out, (fun h => (by rw [HN.out] at h; cases h)), RW.out⟩
      have ek : ((k : Int) == 24) = false := by simp; omega
      have HNX := Lib.hid (HS.out.next (by rw [HLR.out]; omega) (by rw [HQ.out]; omega) (by rw [HQ.out]; omega) (by rw [HLR.out, HQ.out]; omega) (by omega))
      rw [HQ.out, HT.out] at HNX
      have hdq : q ≤ d := by omega
      have s3 := run_cut und_bytes size_byte (A := AR) (n := d) (c := cr) 4 (q : Int) 4 q (q - 4) (cr - 4) rfl rfl (by omega) (by omega) rfl rfl
      have V3 := Lib.hid (V0.out.cutTo 2 (by omega))
      have V4 := Lib.hid (V0.out.cutS 4 q (by omega) (by omega) (d := q - 4) (k := cr - 4) rfl rfl)
      have p2 : (2 : Int) ≤ (cr : Int) := by omega
      go_wp2_with fail
      refine (get2_any _ _ _ _ _ (V2.out.below RW.out) E1.out).mono ?_
      rintro e wx ⟨rfl, rfl⟩
      go_upto_region 16 with fail
      refine zBegin (Z := []) (S := fun w' => Below w0.heap.size w0 w') (by kernel_rfl) ?pz4 (RW.out.drew) (fun hPQ wd hbd hHeld => ?sz4)
      case pz4 => (repeat (with_reducible first | refine PQ.then ?_ | refine PQ.block ?_)); exact fun _ _ d _ _ h => by cases d <;> exact h
      case sz4 =>
        have BO := Lib.hid (BO.out.stays hbd)
        have HO := Lib.hid (own_below HO.out hbd)
        clear hbd
        refine zVal (i := 0) (d := (some 44)) (v := ?_) rfl rfl (by kernel_rfl) (by kernel_rfl) (by kernel_rfl) (by kernel_rfl) hPQ (by rfl) (fun wq hSw => ?_) hHeld ?_
        rotate_left 1
        · go_simp; try with_reducible rfl
        try simp only [Act.put, List.setIfInBounds_toArray, List.set_cons_zero, List.set_cons_succ]
        refine zVal (i := 1) (d := (some 45)) (v := ?_) rfl rfl (by kernel_rfl) (by kernel_rfl) (by kernel_rfl) (by kernel_rfl) hPQ (by rfl) (fun wq hSw => ?_) hHeld ?_
        rotate_left 1
        · go_simp; try with_reducible rfl
        try simp only [Act.put, List.setIfInBounds_toArray, List.set_cons_zero, List.set_cons_succ]
        refine zVal (i := 2) (d := (some 46)) (v := ?_) rfl rfl (by kernel_rfl) (by kernel_rfl) (by kernel_rfl) (by kernel_rfl) hPQ (by rfl) (fun wq hSw => ?_) hHeld ?_
        rotate_left 1
        · go_simp; try with_reducible rfl
        try simp only [Act.put, List.setIfInBounds_toArray, List.set_cons_zero, List.set_cons_succ]
        refine zVal (i := 3) (d := (some 47)) (v := ?_) rfl rfl (by kernel_rfl) (by kernel_rfl) (by kernel_rfl) (by kernel_rfl) hPQ (by rfl) (fun wq hSw => ?_) hHeld ?_
        rotate_left 1
        · go_simp; try with_reducible rfl
        try simp only [Act.put, List.setIfInBounds_toArray, List.set_cons_zero, List.set_cons_succ]
        refine zVal (i := 6) (d := (some 50)) (v := ?_) rfl rfl (by kernel_rfl) (by kernel_rfl) (by kernel_rfl) (by kernel_rfl) hPQ (by rfl) (fun wq hSw => ?_) hHeld ?_
        rotate_left 1
        · go_simp; try with_reducible rfl
        try simp only [Act.put, List.setIfInBounds_toArray, List.set_cons_zero, List.set_cons_succ]
        refine zVal (i := 7) (d := (some 51)) (v := ?_) rfl rfl (by kernel_rfl) (by kernel_rfl) (by kernel_rfl) (by kernel_rfl) hPQ (by rfl) (fun wq hSw => ?_) hHeld ?_
        rotate_left 1
        · go_simp; try with_reducible rfl
        try simp only [Act.put, List.setIfInBounds_toArray, List.set_cons_zero, List.set_cons_succ]
        refine zVal (i := 8) (d := (some 52)) (v := ?_) rfl rfl (by kernel_rfl) (by kernel_rfl) (by kernel_rfl) (by kernel_rfl) hPQ (by rfl) (fun wq hSw => ?_) hHeld ?_
        rotate_left 1
        · go_simp; try with_reducible rfl
        try simp only [Act.put, List.setIfInBounds_toArray, List.set_cons_zero, List.set_cons_succ]
        refine zCall (i := 4) (d := (some 48)) rfl rfl (by kernel_rfl) (by kernel_rfl) (by kernel_rfl) (by kernel_rfl) hPQ (by rfl) (fun wq hSw => (get2_any _ _ _ _ _ (V3.out.below hSw) E2.out).mono (fun e q hq => ⟨hq.1, by first | exact hq.2 | exact hq.2.symm⟩)) (fun wq hSw => ?_) hHeld ?_
        · go_simp
        try simp only [Act.put, List.setIfInBounds_toArray, List.set_cons_zero, List.set_cons_succ]
        refine zVal (i := 5) (d := (some 49)) (v := ?_) rfl rfl (by kernel_rfl) (by kernel_rfl) (by kernel_rfl) (by kernel_rfl) hPQ (by rfl) (fun wq hSw => ?_) hHeld ?_
        rotate_left 1
        · go_simp; try with_reducible rfl
        try simp only [Act.put, List.setIfInBounds_toArray, List.set_cons_zero, List.set_cons_succ]
        refine zAlone (j := 9) (by kernel_rfl) ?_
        refine zOpCall (j := 9) (d := (some 53)) (R := fun v w' => ∃ Ap cp, v = .slice Ap (q - 4) cp ∧ w'.ownsRow wd.heap.size 5 1 (.slice Ap (q - 4) cp) (q - 4) (((rest.drop 4).take (q - 4)).map byteV) ∧ Below wd.heap.size wd w') rfl rfl (by rfl) ?rz5 ((clone_any _ _ _ _ _ (V4.out.below hHeld) (by omega)).mono fun e q hq => by obtain ⟨Ap, cp, h1, h2, h3⟩ := hq; exact ⟨_, h1, Ap, cp, rfl, h2, h3⟩) (fun v u1 hRv => ?tz5)
        case rz5 => go_simp
        case tz5 =>
          obtain ⟨AD, cD, rfl, hD, hb1⟩ := hRv
          refine ⟨.inr (hHeld.trans (hb1.mono hHeld.size)), ?_⟩
          try simp only [Act.put, List.setIfInBounds_toArray, List.set_cons_zero, List.set_cons_succ]
          have hH1 := hHeld.trans (hb1.mono hHeld.size)
          have HOF : Off AD (q - 4) (Value.slice AO k co).ownBlock := Off.fresh (Fresh.own hD) (fun j hj => (HO.out.lt j hj).2)
          have BO := Lib.hid (BO.out.stays hb1)
          have HO := Lib.hid (own_below HO.out hb1)
          have hHeld := hH1
          clear hb1 hH1
          refine zVal (i := 10) (d := (some 54)) (v := ?_) rfl rfl (by kernel_rfl) (by kernel_rfl) (by kernel_rfl) (by kernel_rfl) hPQ (by rfl) (fun wq hSw => ?_) hHeld ?_
          rotate_left 1
          · go_simp; try with_reducible rfl
          try simp only [Act.put, List.setIfInBounds_toArray, List.set_cons_zero, List.set_cons_succ]
          refine zAlone (j := 11) (by kernel_rfl) ?_
          refine zOpCall (j := 11) (d := (some 55)) (R := fun v w' => v = .tuple #[] ∧ ∃ A8 c8, Blk w' ob 34 #[.slice A8 (k + 1) c8] ∧ IntsA w' w0.heap.size A8 (k + 1) c8 (plX seen ++ [p]) ∧ Below w0.heap.size u1 w') rfl rfl (by rfl) ?rz6 ((visP w0.heap.size ob AO k co (plX seen) p (ty : Int) AD (q - 4) cD ((rest.drop 4).take (q - 4)) _ BO.out HOB.out hHeld.size HO.out (own_rd hD) HOF (by omega)).mono fun e q hq => by obtain ⟨h1, A8, c8, h2, h3, h4⟩ := hq; exact ⟨_, h1, rfl, A8, c8, h2, h3, h4⟩) (fun v u2 hRv => ?tz6)
          case rz6 => go_simp
          case tz6 =>
            obtain ⟨rfl, A8, c8, hB8, hO8, hb2⟩ := hRv
            refine ⟨.inr (hHeld.trans hb2), ?_⟩
            try simp only [Act.put, List.setIfInBounds_toArray, List.set_cons_zero, List.set_cons_succ]
            have R2 := hHeld.trans hb2
            have B2 := Lib.hid hB8
            have O2 : Hid (IntsA u2 w0.heap.size A8 (k + 1) c8 (plX (seen ++ [(p, ((ty : Int), (rest.drop 4).take (q - 4)))]))) := by rw [Hid]; simpa [plX] using hO8
            have HN2 : Hid (Scans R (m - 1) (p + q) (k + 1) (l.drop (p + q)) (seen ++ [(p, ((ty : Int), (rest.drop 4).take (q - 4)))])) := by have h := HNX.out; have hdd : rest.drop q = l.drop (p + q) := (by rw [← HREST.out, List.drop_drop]); rw [hdd] at h; exact h
            clear hHeld hb2 hB8 hO8 HOF hD
            refine zDone (by kernel_rfl) ?_ _
            go_wp2
            go_roundw
            case rel => exact ⟨p + q, k + 1, m - 1, c8, A8, _, by omega, by omega, by go_num, by go_num, HN2, B2, O2, R2⟩
            case measure => simp [intOf]; omega
    · obtain rfl : p = n := by omega
      have HF := Lib.hid (HS.out.last (by rw [List.length_drop, HLl.out]; omega))
      have q9 : ¬ (p : Int) < (p : Int) := by omega
      go_wp2
      go_returns
      exact ⟨by rw [HF.out.1]; rfl, AO, k, co, plX seen, BO.out, HO.out, (fun _ => (by rw [HF.out.2])), RW.out⟩
end Go.Proofs.Ytofadjcphaehcaa
