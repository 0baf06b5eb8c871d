/- The walk of KissBoundsWindows. -/
import Derived.Test.YtnpfndlmbaafaaaKissD
import Derived.Test.YtnpfndlmbaafaaaKissH
import Derived.Test.YtnpfndlmbaafaaaKissW
import Derived.Test.YtnpfndlmbaafaaaApp
namespace Go.Proofs.Ytnpfndlmbaafaaa
open Go.RowKit

/-- What the first loop keeps. -/
structure KW (w : World) (B0 tb rb pb : Nat) (l : List Int) (E B p : Int) (ns : List Int) (A : Option Addr) (n c : Nat) (wr : World) : Prop where
  tape : ∃ k, Tape w.heap.size wr tb l k
  rule : Blk wr rb 41 #[.int .i64 E, .int .i64 B]
  bk : Blk wr pb 39 #[.int .i64 p]
  own : wr.ownsRow B0 3 1 (.slice A n c) n (ns.map (Value.int .i64))
  below : Below w.heap.size w wr
  tr : tb ≠ rb
  tp : tb ≠ pb
  rp : rb ≠ pb
  tlt : tb < B0
  rlt : rb < B0
  plt : pb < B0
  ge : w.heap.size ≤ pb
  b0 : w.heap.size ≤ B0
  bw : B0 ≤ wr.heap.size
section
variable {w : World} {B0 tb rb pb : Nat} {l : List Int} {E B p : Int} {ns : List Int} {A : Option Addr} {n c : Nat} {wr w1 : World}
theorem KW.stays (h : KW w B0 tb rb pb l E B p ns A n c wr) (hb : Below wr.heap.size wr w1) : KW w B0 tb rb pb l E B p ns A n c w1 := by
  obtain ⟨k, hk⟩ := h.tape
  exact ⟨⟨k, hk.stays hb⟩, h.rule.stays hb, h.bk.stays hb, own_below h.own hb, below_via h.below hb h.below.size, h.tr, h.tp, h.rp, h.tlt, h.rlt, h.plt, h.ge, h.b0, by have := hb.size; have := h.bw; omega⟩
theorem KW.step (h : KW w B0 tb rb pb l E B p ns A n c wr) {k : Nat} (ht : Tape w.heap.size w1 tb l k) (ho : Only tb wr w1) : KW w B0 tb rb pb l E B p ns A n c w1 := by
  have h1 := h.tlt
  have h2 := h.tp
  have h3 := h.tr
  have h4 := ho.size
  have h5 := h.bw
  exact ⟨⟨k, ht⟩, h.rule.grown ho (fun e => by injection e with e; omega), h.bk.grown ho (fun e => by injection e with e; omega),
   h.own.kept ho (by
    cases e : (Value.slice A n c).ownBlock with
    | none => exact .inl rfl
    | some g => exact .inr (fun e' => by injection e' with e'; have := (h.own.lt g e).1; omega)),
   h.below.grown ho h.below.size (fun k hk => by injection hk with hk; subst hk; exact ht.ge), h.tr, h.tp, h.rp, h.tlt, h.rlt, h.plt, h.ge, h.b0, by omega⟩
theorem KW.set (h : KW w B0 tb rb pb l E B p ns A n c wr) (p' : Int) : KW w B0 tb rb pb l E B p' ns A n c (wr.setCell ⟨pb, 0, none⟩ (.int .i64 p')) := by
  obtain ⟨k, hk⟩ := h.tape
  have hge := h.ge
  have h1 := h.plt
  have h2 := h.tp
  have h3 := h.rp
  refine ⟨⟨k, hk.keep fun j hj => ?_⟩, h.rule.far (p := ⟨pb, 0, none⟩) h3 _, h.bk.put 0 _, h.own.kept (row := some pb) ?_ ?_, h.below.setCell (p := ⟨pb, 0, none⟩) hge _, h.tr, h2, h3, h.tlt, h.rlt, h1, hge, h.b0, by simpa using h.bw⟩
  · have hjp : j ≠ pb := by rcases hj with hj | rfl <;> omega
    rw [Below.heap_setCell _ _ _ _ hjp]
  · exact ⟨rfl, rfl, rfl, by simp, fun i _ hn => Below.heap_setCell _ _ _ _ (fun e => hn (by rw [e]))⟩
  · cases e : (Value.slice A n c).ownBlock with
    | none => exact .inl rfl
    | some g => exact .inr (fun e' => by injection e' with e'; have := (h.own.lt g e).1; omega)
theorem KW.more (h : KW w B0 tb rb pb l E B p ns A n c wr) {t : Int} {A' : Option Addr} {c' : Nat} (hb : Below B0 wr w1) (ho : w1.ownsRow B0 3 1 (.slice A' (n + 1) c') (n + 1) (ns.map (Value.int .i64) ++ [.int .i64 t])) :
    KW w B0 tb rb pb l E B p (ns ++ [t]) A' (n + 1) c' w1 := by
  obtain ⟨k, hk⟩ := h.tape
  have h0 := h.b0
  have h1 := h.tlt
  have h2 := h.rlt
  have h3 := h.plt
  exact ⟨⟨k, hk.keep fun j hj => hb.block j (by rcases hj with hj | rfl <;> omega)⟩, h.rule.same (hb.block _ h2), h.bk.same (hb.block _ h3), by rw [List.map_append]; exact ho, h.below.trans (hb.mono h0), h.tr, h.tp, h.rp, h1, h2, h3, h.ge, h0, by have := hb.size; have := h.bw; omega⟩
theorem KW.len (h : KW w B0 tb rb pb l E B p ns A n c wr) : ns.length = n := by simpa using h.own.1
end

theorem prod_few (a b : Int) (h1 : 1 ≤ a) (h2 : a ≤ 30) (h3 : 1 ≤ b) (h4 : b ≤ 4) : 0 ≤ b * a ∧ b * a ≤ 120 ∧ (b - 1) * a = b * a - a :=
  ⟨Int.mul_nonneg (by omega) (by omega), Int.le_trans (Int.mul_le_mul h4 h2 (by omega) (by omega)) (by omega), by rw [Int.sub_mul, Int.one_mul]⟩

theorem infoIntK : (Try.prog.info? 3).map (fun i => (i.zero, i.size, i.bytes)) = some (some (.int .i64 0), 1, 8) := by kernel_rfl

set_option maxRecDepth 100000 in
set_option maxHeartbeats 4000000 in
theorem kissBounds_walk (A : Option Addr) (n c : Nat) (l : List Int) (a1 a2 : Int) (w : World) (hv : Rd w 1 A n c (l.map (Value.int .i64))) :
    Calls Try.prog 6 #[.slice A n c, .int .i64 a1, .int .i64 a2] w fun e w' => e = .returned (.bool true) ∧ Below w.heap.size w w' := by
  have hn : n ≤ 9223372036854775807 := by
    have h1 := hv.2.1
    have h2 := hv.2.2.1
    rw [show maxLen = 9223372036854775807 from rfl] at h2
    omega
  have CN := Lib.hid (tape_new A n c l w hv hn)
  clear hv hn
  obtain ⟨i0, hi, hz0, hz1, hz2⟩ := info_parts infoIntK
  obtain ⟨ev, he⟩ : ∃ q, a1 % 30 = q := ⟨_, rfl⟩
  have he1 : 0 ≤ ev := by omega
  have he2 : ev < 30 := by omega
  have ce := Lib.hid (fun W => within_any a1 30 (by omega) (by omega) W); rw [he] at ce
  obtain ⟨bu, hu⟩ : ∃ q, a2 % 4 = q := ⟨_, rfl⟩
  have hu1 : 0 ≤ bu := by omega
  have hu2 : bu < 4 := by omega
  have cu := Lib.hid (fun W => within_any a2 4 (by omega) (by omega) W); rw [hu] at cu
  clear he hu
  go_enter Try.func6, Try.ntmps6
  go_wp2_with fail
  refine CN.out.mono ?_
  rintro e w1 ⟨tb, rfl, ht, hb1⟩
  have htl := ht.lt
  have htg := ht.ge
  have hs1 := hb1.size
  go_wp2_with fail
  refine (ce.out _).mono ?_
  rintro e w2 ⟨rfl, rfl⟩
  go_wp2_with fail
  refine (cu.out _).mono ?_
  rintro e w2 ⟨rfl, rfl⟩
  go_wp2_with fail
  obtain ⟨wk, rb, pb, hwk, hrb, hpb⟩ : ∃ wk rb pb, wk = (w1.alloc (.cells #[.int .i64 (1 + ev), .int .i64 (1 + bu)] 41)).alloc (.cells #[.int .i64 0] 39) ∧ rb = w1.heap.size ∧ pb = w1.heap.size + 1 := ⟨_, _, _, rfl, rfl, rfl⟩
  rw [← hwk, ← hpb, ← hrb]
  obtain ⟨E, hE⟩ : ∃ E, 1 + ev = E := ⟨_, rfl⟩
  obtain ⟨B, hB⟩ : ∃ B, 1 + bu = B := ⟨_, rfl⟩
  rw [hE, hB] at hwk
  have E1 : 1 ≤ E := by omega
  have E2 : E ≤ 30 := by omega
  have B1 : 1 ≤ B := by omega
  have B2 : B ≤ 4 := by omega
  obtain ⟨M1, M2, M3⟩ := prod_few E B E1 E2 B1 B2
  have HM3 := Lib.hid M3
  clear M3
  have hk0 : KW w wk.heap.size tb rb pb l E B 0 [] none 0 0 wk := by
    have hb2 : Below w1.heap.size w1 wk := by rw [hwk]; go_grown
    have hsz : wk.heap.size = w1.heap.size + 2 := by rw [hwk]; simp
    exact ⟨⟨0, ht.stays hb2⟩, by rw [hwk, hrb]; exact (Blk.new _ _ _).stays (by go_grown), by rw [hwk, hpb]; simpa using Blk.new (w1.alloc _) _ _, own_nil _ _ _ _, hb1.trans (hb2.mono hs1), by omega, by omega, by omega, by omega, by omega, by omega, by omega, by omega, Nat.le_refl _⟩
  generalize wk.heap.size = B0 at hk0
  clear hwk hpb hrb ht hb1 htl htg hs1 CN ce cu hE hB he1 he2 hu1 hu2
  have HW0 := Lib.hid (Win.nil E1 B1)
  go_loopw [10, 11, 12, 13] (fun s t q i wr => ∃ (j : Nat) (nw la p : Int) (ns : List Int) (A : Option Addr) (n c : Nat), j ≤ 30 ∧ i = .int .i64 j ∧ s = .slice A n c ∧ t = .int .i64 nw ∧ q = .int .i64 la ∧ nw ≤ 20 * j ∧ (la = nw ∨ (la = -1000 ∧ p = 0)) ∧ n ≤ j ∧ KW w B0 tb rb pb l E B p ns A n c wr ∧ Win E B p nw ns) (fun _ _ _ i _ => 30 - (intOf i).toNat)
  case atStart => exact ⟨0, 0, -1000, 0, [], none, 0, 0, by omega, rfl, rfl, rfl, rfl, by omega, .inr ⟨rfl, rfl⟩, by omega, hk0, HW0.out⟩
  case round =>
    obtain ⟨j, nw, la, p, ns, A, n, c, hj, rfl, rfl, rfl, rfl, hnw, hla, hnj, hk, hwin⟩ := hrel
    clear hk0
    have HWI := Lib.hid hwin
    have t0 := hwin.t0
    have p0 := hwin.p0
    have pb0 := hwin.pb
    clear hwin
    have HLA := Lib.hid hla
    have la1 : -1000 ≤ la := by omega
    have la2 : la ≤ 600 := by omega
    clear hla
    by_cases hj2 : j < 30
    · obtain ⟨kk, hka⟩ := hk.tape
      have ci := Lib.hid (int_any w.heap.size tb l kk 20 (by omega) (by omega) wr hka)
      clear hka
      obtain ⟨m, hm⟩ : ∃ m : Int, tapeAt l kk % 20 = m := ⟨_, rfl⟩
      have hm1 : 0 ≤ m := by omega
      have hm2 : m < 20 := by omega
      rw [hm] at ci
      clear hm
      go_wp2_with fail
      refine ci.out.mono ?_
      rintro e w2 ⟨k2, rfl, ht, ho⟩
      have hk2 := hk.step ht ho
      clear hk ci ht ho
      have c0 : w2.cell? ⟨pb, 0, none⟩ = some (.int .i64 p) := hk2.bk.cell 0
      have r0 : w2.cell? ⟨rb, 0, none⟩ = some (.int .i64 E) := hk2.rule.cell 0
      have r1 : w2.cell? ⟨rb, 1, none⟩ = some (.int .i64 B) := hk2.rule.cell 1
      obtain ⟨nx, hnx⟩ : ∃ nx, nw + m = nx := ⟨_, rfl⟩
      have hx1 : nw ≤ nx := by omega
      have hx2 : nx ≤ 20 * j + 20 := by omega
      have wx : IntKind.i64.wrap (nw + m) = nx := by rw [IntWalk.i64_in _ (by omega)]; exact hnx
      by_cases hok : p - nx - (B - 1) * E ≤ 0
      · have HOK := Lib.hid hok
        obtain ⟨p', hp'⟩ : ∃ p', max p nx + E = p' := ⟨_, rfl⟩
        have cr := Lib.hid (fun W => kissAllow_yes p E B nx E1 (by omega) B1 (by omega) (by omega) (by omega) (by omega) (by omega) hok W)
        rw [hp'] at cr
        have hwin' := Lib.hid (HWI.out.yes hx1 E1 B1 hok)
        rw [hp'] at hwin'
        clear hok hp'
        go_wp2_with fail
        refine (cr.out _).mono ?_
        rintro e w3 ⟨rfl, hb3⟩
        have hk3 := hk2.stays hb3
        clear hb3 hk2 c0 r0 r1 cr
        have c0 : w3.cell? ⟨pb, 0, none⟩ = some (.int .i64 p) := hk3.bk.cell 0
        have r0 : w3.cell? ⟨rb, 0, none⟩ = some (.int .i64 E) := hk3.rule.cell 0
        have hlt := hk3.bk.lt
        have hltr := hk3.rule.lt
        have hn1 : ¬ w3.heap.size = pb := by omega
        have hn2 : ¬ pb = w3.heap.size := by omega
        go_upto_region 11 with fail
        obtain ⟨wg, g, hwg, hg⟩ : ∃ wg g, wg = w3.alloc (.cells #[.int .i64 p'] 39) ∧ g = w3.heap.size := ⟨_, _, rfl, rfl⟩
        rw [← hwg, ← hg]
        have hkg := hk3.stays (w1 := wg) (by rw [hwg]; go_grown)
        have hbg : Blk wg g 39 #[.int .i64 p'] := by rw [hwg, hg]; exact Blk.new _ _ _
        have hlo : ∀ k, (Value.slice A n c).ownBlock = some k → k < g := fun k hk => by have := (hk3.own.lt k hk).2; omega
        clear hwg hg hk3 c0 r0
        have c0 : wg.cell? ⟨pb, 0, none⟩ = some (.int .i64 p) := hkg.bk.cell 0
        have r0 : wg.cell? ⟨rb, 0, none⟩ = some (.int .i64 E) := hkg.rule.cell 0
        have hgl := hbg.lt
        have hbw := hkg.bw
        have HO := Lib.hid (fun o => own_alloc hkg.own o)
        go_wp2_with (at_builtin; refine wpList_append_rd rfl _ _ 47 rfl i0 (.int .i64 0) 8 Try.underlying47 hi hz0 hz1 hz2 rfl (by decide) rfl (HO.out _) rfl (rd_one _ _ _) (by simp [Value.oneCell']) ?c1 ?c2 ?c3 ?_)
        case c1 => unfold maxLen; omega
        case c2 => omega
        case c3 => simp; omega
        intro A8 c8 w8 hown8 hg8 hb8
        have hbA := (Below.refl B0 wg).alloc hbw (.cells #[.int .i64 nx] 3)
        have hk8 := hkg.more (hbA.trans hb8) hown8
        have hne8 : Blk w8 g 39 #[.int .i64 p'] := by
          have ha : Blk (wg.alloc (.cells #[.int .i64 nx] 3)) g 39 #[.int .i64 p'] := hbg.stays ((Below.refl _ _).alloc (Nat.le_refl _) _)
          exact ha.grown hg8 (fun e => by have := hlo g e.symm; omega)
        have g0 : w8.cell? ⟨g, 0, none⟩ = some (.int .i64 p') := hne8.cell 0
        have c0 : w8.cell? ⟨pb, 0, none⟩ = some (.int .i64 p) := hk8.bk.cell 0
        have f0 := hk8.bk.frozen 0
        clear hown8 hg8 hb8 hbA HO hkg hbg
        go_wp2_with fail
        go_roundw
        case rel => exact ⟨j + 1, nx, nx, p', _, _, _, _, by omega, by go_num, rfl, rfl, rfl, by omega, .inl rfl, by omega, hk8.set p', hwin'.out⟩
        case measure => simp [intOf]; omega
      · have hno : 0 < p - nx - (B - 1) * E := by omega
        have HEA := Lib.hid (HWI.out.early hno)
        have hearly : nx - la < E := by
          have h1 := HEA.out
          have h3 := HM3.out
          have h4 : 0 ≤ (B - 1) * E := Int.mul_nonneg (by omega) (by omega)
          rcases HLA.out with h2 | ⟨_, h2⟩
          · omega
          · exfalso; omega
        have cr := Lib.hid (fun W => kissAllow_no p E B nx E1 (by omega) B1 (by omega) (by omega) (by omega) (by omega) (by omega) hno W)
        have hwin' := Lib.hid (HWI.out.no hx1)
        clear hok hno
        go_wp2_with fail
        refine (cr.out _).mono ?_
        rintro e w3 ⟨rfl, hb3⟩
        have hk3 := hk2.stays hb3
        clear hb3 hk2 c0 r0 r1 cr
        have c0 : w3.cell? ⟨pb, 0, none⟩ = some (.int .i64 p) := hk3.bk.cell 0
        have r0 : w3.cell? ⟨rb, 0, none⟩ = some (.int .i64 E) := hk3.rule.cell 0
        have hlt := hk3.bk.lt
        have hltr := hk3.rule.lt
        have hn1 : ¬ w3.heap.size = pb := by omega
        have hn2 : ¬ pb = w3.heap.size := by omega
        go_upto_region 11 with fail
        obtain ⟨wg, g, hwg, hg⟩ : ∃ wg g, wg = w3.alloc (.cells #[.int .i64 p] 39) ∧ g = w3.heap.size := ⟨_, _, rfl, rfl⟩
        rw [← hwg, ← hg]
        have hkg := hk3.stays (w1 := wg) (by rw [hwg]; go_grown)
        have hbg : Blk wg g 39 #[.int .i64 p] := by rw [hwg, hg]; exact Blk.new _ _ _
        clear hwg hg hk3 c0 r0
        have c0 : wg.cell? ⟨pb, 0, none⟩ = some (.int .i64 p) := hkg.bk.cell 0
        have r0 : wg.cell? ⟨rb, 0, none⟩ = some (.int .i64 E) := hkg.rule.cell 0
        have g0 : wg.cell? ⟨g, 0, none⟩ = some (.int .i64 p) := hbg.cell 0
        have f0 := hkg.bk.frozen 0
        have wd : IntKind.i64.wrap (nx - la) = nx - la := IntWalk.i64_in _ (by omega)
        have hnd : ¬ E ≤ nx - la := by omega
        go_wp2_with fail
        go_roundw
        case rel => exact ⟨j + 1, nx, nx, p, _, _, _, _, by omega, by go_num, rfl, rfl, rfl, by omega, .inl rfl, by omega, hkg.set p, hwin'.out⟩
        case measure => simp [intOf]; omega
    · have hjj : ¬ (j : Int) < 30 := by omega
      have hlen := hk.len
      have hnw6 : nw ≤ 600 := by omega
      clear HLA hnw
      have hn30 : n ≤ 30 := by omega
      have hkk := hk
      clear hk
      go_wp2_with fail
      go_loopw [17] (fun i wr => ∃ a : Nat, a ≤ n ∧ i = .int .i64 a ∧ KW w B0 tb rb pb l E B p ns A n c wr) (fun i _ => n - (intOf i).toNat)
      case atStart => exact ⟨0, by omega, rfl, hkk⟩
      case round =>
        clear hkk
        obtain ⟨a, ha, rfl, hk⟩ := hrel
        by_cases han : a < n
        · have hai : (a : Int) < (n : Int) := by omega
          have hai' : decide ((a : Int) < (n : Int)) = true := decide_eq_true hai
          go_wp2_with fail
          go_loopw [18] (fun i wr => ∃ b : Nat, a ≤ b ∧ b ≤ n ∧ i = .int .i64 b ∧ KW w B0 tb rb pb l E B p ns A n c wr) (fun i _ => n - (intOf i).toNat)
          case atStart => exact ⟨a, by omega, by omega, rfl, hk⟩
          case round =>
            clear hk
            obtain ⟨b, hab, hb, rfl, hk⟩ := hrel
            by_cases hbn : b < n
            · have hbi : (b : Int) < (n : Int) := by omega
              have hb0 : (0 : Int) ≤ (b : Int) := by omega
              have ha0 : (0 : Int) ≤ (a : Int) := by omega
              have hkd := hk.stays (w1 := wr.drew) (by go_grown)
              have r0 : wr.drew.cell? ⟨rb, 0, none⟩ = some (.int .i64 E) := hkd.rule.cell 0
              have r1 : wr.drew.cell? ⟨rb, 1, none⟩ = some (.int .i64 B) := hkd.rule.cell 1
              have hfit := HWI.out.fits E1 a b hab (by omega)
              have hpr := (HWI.out.pr a b hab (by omega)).2
              have hvb := HWI.out.at0 b (by omega)
              have hva := HWI.out.at0 a (by omega)
              have HRD := own_rd hkd.own
              obtain ⟨va, hva'⟩ : ∃ va, numAt ns a = va := ⟨_, rfl⟩
              obtain ⟨vb, hvb'⟩ : ∃ vb, numAt ns b = vb := ⟨_, rfl⟩
              obtain ⟨q, hq⟩ : ∃ q, (vb - va).tdiv E = q := ⟨_, rfl⟩
              rw [hva', hvb', hq] at hfit
              rw [hva', hvb'] at hpr
              rw [hva'] at hva
              rw [hvb'] at hvb
              have ea : (ns.map (Value.int .i64))[a]? = some (.int .i64 va) := by
                have hl : a < ns.length := by omega
                rw [← hva']; simp [numAt, hl]
              have eb : (ns.map (Value.int .i64))[b]? = some (.int .i64 vb) := by
                have hl : b < ns.length := by omega
                rw [← hvb']; simp [numAt, hl]
              obtain ⟨g, off, eA, ca⟩ := HRD.2.2.2 a _ ea
              subst eA
              obtain ⟨g', off', eA, cb⟩ := HRD.2.2.2 b _ eb
              injection eA with eA
              injection eA with e1 e2
              subst e1 e2
              clear ea eb hva' hvb' HRD
              have q1 : 0 ≤ q := by rw [← hq]; exact Int.tdiv_nonneg (by omega) (by omega)
              have q2 : q ≤ 700 := by
                rw [← hq, Int.tdiv_eq_ediv_of_nonneg (by omega)]
                exact Int.le_trans (Int.ediv_le_self _ (by omega)) (by omega)
              have wd : IntKind.i64.wrap (vb - va) = vb - va := IntWalk.i64_in _ (by omega)
              have wq : IntKind.i64.wrap q = q := IntWalk.i64_in _ (by omega)
              have ws : IntKind.i64.wrap (B + q) = B + q := IntWalk.i64_in _ (by omega)
              have wk1 : IntKind.i64.wrap ((b : Int) - a) = (b : Int) - a := IntWalk.i64_in _ (by omega)
              have wk2 : IntKind.i64.wrap ((b : Int) - a + 1) = (b : Int) - a + 1 := IntWalk.i64_in _ (by omega)
              have hE0 : ¬ E = 0 := by omega
              have hfit' : ¬ B + q < (b : Int) - a + 1 := by omega
              go_wp2_with fail
              refine region_still (by kernel_rfl) (by kernel_rfl) ?_
              repeat still_step
              refine wpStill_nil ?_
              go_wp2_with fail
              go_roundw
              case rel => exact ⟨b + 1, by omega, by omega, by go_num, hk.stays (by go_grown)⟩
              case measure => simp [intOf]; omega
            · have hbn2 : ¬ (b : Int) < (n : Int) := by omega
              go_wp2_with fail
              go_roundw
              case rel => exact ⟨a + 1, by omega, by go_num, hk⟩
              case measure => simp [intOf]; omega
        · have han2 : ¬ (a : Int) < (n : Int) := by omega
          have hb := hk.below
          have hs := hb.size
          clear hk
          go_wp2_with fail
          refine (kissKnown _).mono ?_
          rintro e w2 ⟨rfl, hb2⟩
          go_wp2
          go_ret
          exact ⟨rfl, below_via hb hb2 hs⟩
end Go.Proofs.Ytnpfndlmbaafaaa
