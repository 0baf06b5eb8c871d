import Derived.Test.YtnpfndlmbaafaaaKissF
import Derived.Test.YtnpfndlmbaafaaaReg
import Derived.Deep.RegionHeld3
import Derived.Deep.DeepCutAuto
namespace Go.Proofs.Ytnpfndlmbaafaaa
open Go.RowKit

/-- The five names. -/
def fiveL (name : ByteArray) : List ByteArray := [name, ⟨#[68, 69, 78, 89]⟩, ⟨#[82, 83, 84, 82]⟩, ⟨#[82, 65, 84, 69]⟩, ⟨#[78, 84, 83, 78]⟩]

/-- What the loop keeps. -/
structure Keep (w : World) (name : ByteArray) (p q : Int) (s f : Bool) (wr : World) : Prop where
  below : Below w.heap.size w wr
  size : w.heap.size + 1 + 1 + 1 < wr.heap.size
  strs : Strs wr (some ⟨w.heap.size + 1, 0, none⟩) 5 5 (fiveL name)
  peers : Rd wr 3 (some ⟨w.heap.size + 1 + 1 + 1, 0, none⟩) 2 2 [.int .i64 p, .bool s, .bool f, .int .i64 (3 + q), .bool s, .bool f]

section
variable {w : World} {name : ByteArray} {p q : Int} {s f : Bool} {wr w1 : World}
theorem Keep.stays (h : Keep w name p q s f wr) (hb : Below wr.heap.size wr w1) : Keep w name p q s f w1 :=
  ⟨below_via h.below hb h.below.size, Nat.lt_of_lt_of_le h.size hb.size, h.strs.stays hb, h.peers.stays hb⟩
theorem Keep.str (h : Keep w name p q s f wr) {m : Nat} (hm : m < 5) : wr.cell? ⟨w.heap.size + 1, m, none⟩ = some (.string (strAt (fiveL name) m)) := by
  obtain ⟨b, off, e, hc⟩ := h.strs.at_ hm
  simp only [Option.some.injEq, Addr.mk.injEq, and_true] at e
  obtain ⟨rfl, rfl⟩ := e
  rwa [Nat.zero_add] at hc
theorem Keep.peer (h : Keep w name p q s f wr) {j : Nat} (hj : j < 2) : ∃ pj, wr.cell? ⟨w.heap.size + 1 + 1 + 1, j * 3, none⟩ = some (.int .i64 pj) ∧
    wr.cell? ⟨w.heap.size + 1 + 1 + 1, j * 3 + 1, none⟩ = some (.bool s) ∧ wr.cell? ⟨w.heap.size + 1 + 1 + 1, j * 3 + 2, none⟩ = some (.bool f) := by
  have key : ∀ i u, [Value.int .i64 p, .bool s, .bool f, .int .i64 (3 + q), .bool s, .bool f][i]? = some u → wr.cell? ⟨w.heap.size + 1 + 1 + 1, i, none⟩ = some u := by
    intro i u hu
    obtain ⟨b, off, e, hc⟩ := h.peers.2.2.2 i u hu
    simp only [Option.some.injEq, Addr.mk.injEq, and_true] at e
    obtain ⟨rfl, rfl⟩ := e
    rwa [Nat.zero_add] at hc
  match j, hj with
  | 0, _ => exact ⟨p, key 0 _ rfl, key 1 _ rfl, key 2 _ rfl⟩
  | 1, _ => exact ⟨3 + q, key 3 _ rfl, key 4 _ rfl, key 5 _ rfl⟩
end
/-- A peer's three cells in block g. -/
def Peer (wx : World) (g : Nat) (r : Int × Bool × Bool × Int) : Prop :=
  wx.cell? ⟨g, 0, none⟩ = some (.int .i64 r.1) ∧ wx.cell? ⟨g, 1, none⟩ = some (.bool r.2.1) ∧ wx.cell? ⟨g, 2, none⟩ = some (.bool r.2.2.1)
theorem Peer.stays {wx w1 : World} {g : Nat} {r : Int × Bool × Bool × Int} (h : Peer wx g r) (hb : Below wx.heap.size wx w1) : Peer w1 g r :=
  ⟨cell_stays hb h.1, cell_stays hb h.2.1, cell_stays hb h.2.2⟩
theorem Peer.lt {wx : World} {g : Nat} {r : Int × Bool × Bool × Int} (h : Peer wx g r) : g < wx.heap.size := World.block_lt_of_cell? wx _ h.1

theorem keep_start (w : World) (name : ByteArray) (p q : Int) (s f : Bool) : Keep w name p q s f ((((w.alloc (.cells #[.int .i64 p, .bool s, .bool f] 81)).alloc
    (.cells #[.string name, .string ⟨#[68, 69, 78, 89]⟩, .string ⟨#[82, 83, 84, 82]⟩, .string ⟨#[82, 65, 84, 69]⟩, .string ⟨#[78, 84, 83, 78]⟩] 9)).alloc
    (.cells #[.int .i64 (3 + q), .bool s, .bool f] 81)).alloc (.cells #[.int .i64 p, .bool s, .bool f, .int .i64 (3 + q), .bool s, .bool f] 81)) := by
  refine ⟨by go_grown, by simp, ⟨rfl, Nat.le_refl _, by decide, fun i u hu => ⟨_, _, rfl, ?_⟩⟩, ⟨rfl, Nat.le_refl _, by decide, fun i u hu => ⟨_, _, rfl, ?_⟩⟩⟩
  · rw [World.cell?_alloc_past _ _ _ (by simp), World.cell?_alloc_past _ _ _ (by simp), World.cell?_alloc_at _ _ _ _ (by simp), Nat.zero_add]
    simpa [fiveL] using hu
  · rw [World.cell?_alloc_at _ _ _ _ (by simp), Nat.zero_add]
    simpa using hu

set_option maxRecDepth 100000 in
set_option maxHeartbeats 2000000 in
theorem kissReacts_walk (p : Int) (s f : Bool) (name : ByteArray) (a2 a3 : Int) (hs : name.size ≤ 9223372036854775807) (w : World) :
    Calls Try.prog 13 #[.agg #[.int .i64 p, .bool s, .bool f], .string name, .int .i64 a2, .int .i64 a3] w fun e w' => e = .returned (.bool true) ∧ Below w.heap.size w w' := by
  by_cases hlong : 100 < name.size
  · go_enter Try.func13, Try.ntmps13
    go_wp2_with fail
    refine (kissKnown _).mono ?_
    rintro e w1 ⟨rfl, hb1⟩
    go_wp2
    go_ret
    exact ⟨rfl, below_via (by go_grown) hb1 (by simp)⟩
  · obtain ⟨m, hm⟩ : ∃ m : Nat, a2 % 5 = m := Int.eq_ofNat_of_zero_le (by omega)
    have hm5 : m < 5 := by omega
    have cw := Lib.hid (fun W => within_any a2 5 (by omega) (by omega) W); rw [hm] at cw
    clear hm
    obtain ⟨q, hq⟩ : ∃ q : Nat, a3 % 16 = q := Int.eq_ofNat_of_zero_le (by omega)
    have hq16 : q < 16 := by omega
    have cq := Lib.hid (fun W => within_any a3 16 (by omega) (by omega) W); rw [hq] at cq
    clear hq
    go_enter Try.func13, Try.ntmps13
    go_wp2_with fail
    refine (cq.out _).mono ?_
    rintro e w1 ⟨rfl, rfl⟩
    go_wp2_with fail
    go_loopw [36] (fun i wr => ∃ j : Nat, j ≤ 2 ∧ i = .int .i64 j ∧ Keep w name p q s f wr) (fun i _ => 2 - (intOf i).toNat)
    case atStart => exact ⟨0, by omega, rfl, keep_start w name p q s f⟩
    case round =>
      obtain ⟨j, hj, rfl, hk⟩ := hrel
      by_cases hj2 : j < 2
      · obtain ⟨pj, hc0, hc1, hc2⟩ := hk.peer hj2
        have hsz := hk.size
        have hm1 : (0 : Int) ≤ (m : Int) := by omega
        have hm2 : (m : Int) < 5 := by omega
        go_upto_region 9 with fail
        obtain ⟨wq, xb, hwq, hxb⟩ : ∃ wq xb, wq = wr.alloc (.cells #[.int .i64 pj, .bool s, .bool f] 81) ∧ xb = wr.heap.size := ⟨_, _, rfl, rfl⟩
        rw [← hwq, ← hxb]
        have hkwq : Keep w name p q s f wq := by rw [hwq]; exact hk.stays (by go_grown)
        have hxwq : Peer wq xb (pj, s, f, 0) := by rw [hwq, hxb]; exact ⟨by go_simp, by go_simp, by go_simp⟩
        have hxl : w.heap.size + 1 < xb := by omega
        clear hwq hxb hc0 hc1 hc2 hk hsz
        go_upto_region 9 with fail
        go_cut [13, 14] (fun s1 s2 wx => ∃ g : Nat, s1 = .pointer (some ⟨g, 0, none⟩) ∧ s2 = .int .i64 (react pj s f (strAt (fiveL name) m)).2.2.2 ∧ Peer wx g (react pj s f (strAt (fiveL name) m)) ∧ Below wq.heap.size wq wx)
        case first =>
          have hst := hkwq.str hm5
          obtain ⟨x0, x1, x2⟩ := hxwq
          have xlt : xb < wq.heap.size := World.block_lt_of_cell? wq _ x0
          have hz1 : w.heap.size + 1 < wq.heap.size := by omega
          have hz2 : w.heap.size + 1 < wq.heap.size + 1 := by omega
          have hz3 : xb < wq.heap.size + 1 := by omega
          have hz4 : ¬ wq.heap.size = xb := by omega
          have hz5 : ¬ wq.heap.size = w.heap.size + 1 := by omega
          have hz6 : ¬ xb = wq.heap.size := by omega
          have hz7 : ¬ w.heap.size + 1 = wq.heap.size := by omega
          go_region_held3 (fun w' => w'.cell? ⟨xb, 0, none⟩ = some (.int .i64 pj) ∧ w'.cell? ⟨xb, 1, none⟩ = some (.bool s) ∧ w'.cell? ⟨xb, 2, none⟩ = some (.bool f) ∧
              w'.cell? ⟨w.heap.size + 1, m, none⟩ = some (.string (strAt (fiveL name) m)))
            (go_keep)
            (first | (go_at_call 19; refine (cw.out _).mono ?_; rintro e w' ⟨rfl, rfl⟩) | (go_at_call 43; refine (react_tup _ _ _ _ _).mono ?_; rintro e w2 ⟨rfl, hb2⟩; obtain ⟨hc2', hf2', hz2'⟩ := below_reads hb2; have z0 : w2.cell? ⟨xb, 0, none⟩ = some (.int .i64 pj) := cell_stays hb2 (by go_simp); have z1 : w2.cell? ⟨xb, 1, none⟩ = some (.bool s) := cell_stays hb2 (by go_simp); have z2 : w2.cell? ⟨xb, 2, none⟩ = some (.bool f) := cell_stays hb2 (by go_simp); have z3 : w2.cell? ⟨w.heap.size + 1, m, none⟩ = some (.string (strAt (fiveL name) m)) := cell_stays hb2 (by go_simp); have hy0 : Below wq.heap.size wq w2 := (below_via (by go_grown) hb2 (by simp)); have hy1 : w.heap.size + 1 < w2.heap.size := (by simp at hz2'; omega); have hy2 : xb < w2.heap.size := (by simp at hz2'; omega); have hy3 : ¬ w2.heap.size = w.heap.size + 1 := (by omega); have hy4 : ¬ w2.heap.size = xb := (by omega)))
          all_goals
            go_wp2_with fail
            go_meet
            have hy5 := hy0.size
            refine ⟨_, rfl, rfl, ⟨?_, ?_, ?_⟩, ?_⟩
            · go_simp
            · go_simp
            · go_simp
            · go_grown
        case rest =>
        obtain ⟨g13, rfl, rfl, hp13, hb13⟩ := hcut
        obtain ⟨w13, rfl⟩ : ∃ x, x = wc := ⟨_, rfl⟩
        have hkw13 := hkwq.stays hb13
        have hxw13 := hxwq.stays hb13
        go_upto_region 10 with fail
        go_cut [15, 16] (fun s1 s2 wx => ∃ g : Nat, s1 = .pointer (some ⟨g, 0, none⟩) ∧ s2 = .int .i64 (react pj s f (strAt (fiveL name) m)).2.2.2 ∧ Peer wx g (react pj s f (strAt (fiveL name) m)) ∧ Below w13.heap.size w13 wx)
        case first =>
          have hst := hkw13.str hm5
          obtain ⟨x0, x1, x2⟩ := hxw13
          have xlt : xb < w13.heap.size := World.block_lt_of_cell? w13 _ x0
          have hz1 : w.heap.size + 1 < w13.heap.size := by omega
          have hz2 : w.heap.size + 1 < w13.heap.size + 1 := by omega
          have hz3 : xb < w13.heap.size + 1 := by omega
          have hz4 : ¬ w13.heap.size = xb := by omega
          have hz5 : ¬ w13.heap.size = w.heap.size + 1 := by omega
          have hz6 : ¬ xb = w13.heap.size := by omega
          have hz7 : ¬ w.heap.size + 1 = w13.heap.size := by omega
          go_region_held3 (fun w' => w'.cell? ⟨xb, 0, none⟩ = some (.int .i64 pj) ∧ w'.cell? ⟨xb, 1, none⟩ = some (.bool s) ∧ w'.cell? ⟨xb, 2, none⟩ = some (.bool f) ∧
              w'.cell? ⟨w.heap.size + 1, m, none⟩ = some (.string (strAt (fiveL name) m)))
            (go_keep)
            (first | (go_at_call 19; refine (cw.out _).mono ?_; rintro e w' ⟨rfl, rfl⟩) | (go_at_call 44; refine (refReact_tup _ _ _ _ _).mono ?_; rintro e w2 ⟨rfl, hb2⟩; obtain ⟨hc2', hf2', hz2'⟩ := below_reads hb2; have z0 : w2.cell? ⟨xb, 0, none⟩ = some (.int .i64 pj) := cell_stays hb2 (by go_simp); have z1 : w2.cell? ⟨xb, 1, none⟩ = some (.bool s) := cell_stays hb2 (by go_simp); have z2 : w2.cell? ⟨xb, 2, none⟩ = some (.bool f) := cell_stays hb2 (by go_simp); have z3 : w2.cell? ⟨w.heap.size + 1, m, none⟩ = some (.string (strAt (fiveL name) m)) := cell_stays hb2 (by go_simp); have hy0 : Below w13.heap.size w13 w2 := (below_via (by go_grown) hb2 (by simp)); have hy1 : w.heap.size + 1 < w2.heap.size := (by simp at hz2'; omega); have hy2 : xb < w2.heap.size := (by simp at hz2'; omega); have hy3 : ¬ w2.heap.size = w.heap.size + 1 := (by omega); have hy4 : ¬ w2.heap.size = xb := (by omega)))
          all_goals
            go_wp2_with fail
            go_meet
            have hy5 := hy0.size
            refine ⟨_, rfl, rfl, ⟨?_, ?_, ?_⟩, ?_⟩
            · go_simp
            · go_simp
            · go_simp
            · go_grown
        case rest =>
        obtain ⟨g15, rfl, rfl, hp15, hb15⟩ := hcut
        obtain ⟨w15, rfl⟩ : ∃ x, x = wc := ⟨_, rfl⟩
        have hkw15 := hkw13.stays hb15
        have hxw15 := hxw13.stays hb15
        have hp13 := hp13.stays hb15
        clear hb13 hb15 hkwq hxwq hkw13 hxw13
        obtain ⟨x0, x1, x2⟩ := hxw15
        go_wp2_with fail
        refine (good_tup _ _ _ _).mono ?_
        rintro e w17 ⟨rfl, hb17⟩
        have hkw17 := hkw15.stays hb17
        have hp13 := hp13.stays hb17
        have hp15 := hp15.stays hb17
        have hx17 := Peer.stays (r := (pj, s, f, 0)) ⟨x0, x1, x2⟩ hb17
        have l13 := hp13.lt
        have l15 := hp15.lt
        have lx := hx17.lt
        clear hb17 x0 x1 x2 hkw15
        obtain ⟨x0, x1, x2⟩ := hx17
        go_wp2_with fail
        refine (refGood_tup _ _ _ _).mono ?_
        rintro e w19 ⟨rfl, hb19⟩
        have hg17 : Peer (w17.alloc (.cells #[.int .i64 (good pj s f).1, .bool (good pj s f).2.1, .bool (good pj s f).2.2.1] 81)) w17.heap.size (good pj s f) := ⟨by go_simp, by go_simp, by go_simp⟩
        have hal := (Below.refl w17.heap.size w17).alloc (Nat.le_refl _) (.cells #[.int .i64 (good pj s f).1, .bool (good pj s f).2.1, .bool (good pj s f).2.2.1] 81)
        have hkw19 := (hkw17.stays hal).stays hb19
        have hg17 := hg17.stays hb19
        have hp13 := (hp13.stays hal).stays hb19
        have hp15 := (hp15.stays hal).stays hb19
        have l17 := hg17.lt
        have l13' := hp13.lt
        have l15' := hp15.lt
        obtain ⟨y0, y1, y2⟩ := hg17
        obtain ⟨u0, u1, u2⟩ := hp13
        obtain ⟨v0, v1, v2⟩ := hp15
        clear hb19 x0 x1 x2 hal hkw17 lx l13 l15
        go_wp2_with fail
        go_roundw
        case rel => exact ⟨j + 1, by omega, by go_num, hkw19.stays (by go_grown)⟩
        case measure => simp [intOf]; omega
      · go_wp2_with fail
        refine (kissKnown _).mono ?_
        rintro e w1 ⟨rfl, hb1⟩
        go_wp2
        go_ret
        exact ⟨rfl, below_via hk.below hb1 hk.below.size⟩
theorem kissReacts_walk' (p : Int) (s f : Bool) (name : ByteArray) (hs : name.size ≤ maxLen) (a2 a3 : Int) (w : World) :
    Calls Try.prog 13 #[.agg #[.int .i64 p, .bool s, .bool f], .string name, .int .i64 a2, .int .i64 a3] w fun e w' => e = .returned (.bool true) ∧ Below w.heap.size w w' :=
  kissReacts_walk p s f name a2 a3 (by unfold maxLen at hs; omega) w
end Go.Proofs.Ytnpfndlmbaafaaa
