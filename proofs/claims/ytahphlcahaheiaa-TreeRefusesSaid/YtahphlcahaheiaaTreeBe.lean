/- TreeRefuses: the walk. -/
import Derived.Test.YtahphlcahaheiaaTreeK
import Derived.Test.YtahphlcahaheiaaTreeQ
import Derived.Test.YtahphlcahaheiaaTreeN
import Derived.Test.YtahphlcahaheiaaSet1
import Derived.Test.YtahphlcahaheiaaItemsG
import Derived.Test.YtahphlcahaheiaaTakeZ
namespace Go.Proofs.Ytahphlcahaheiaa
open Go.RowKit

theorem ItemsV.rebase {w : World} {bad bad' : Option Nat} {vs : List Value} {ls : List (List UInt8)} (h : ItemsV 1 encB id w bad vs ls) (hb : ∀ k, bad' = some k → w.heap.size ≤ k) : ItemsV 1 encB id w bad' vs ls :=
  ⟨h.1, fun i x hx => by
    obtain ⟨A, n, c, h1, h2, h3⟩ := h.2 i x hx
    exact ⟨A, n, c, h1, h2, fun a ha hn e => by have := h2.lt hn a ha; have := hb _ e; omega⟩⟩
theorem rx_a {w0 w : World} (h : Below w0.heap.size w0 w) (o : Obj) : Below w0.heap.size w0 (w.alloc o) := h.alloc h.size o
theorem own_empty {w : World} {g B e : Nat} (h : Blk w g e #[]) (hB : B ≤ g) : w.ownsRow B e 1 (.slice (some ⟨g, 0, none⟩) 0 0) 0 [] :=
  ⟨rfl, .inr ⟨g, 0, #[], rfl, hB, h, Nat.le_refl _, by decide, rfl, rfl⟩⟩
theorem rd_far {w w' : World} {g e : Nat} {v : Value} {row : Option Nat} (h : Blk w g e #[v]) (hg : w.grownBy w' row) (hne : some g ≠ row) : Rd w' 1 (some ⟨g, 0, none⟩) 1 1 [v] := by
  have h2 := h.grown hg hne
  refine ⟨rfl, Nat.le_refl _, by decide, fun i u hu => ⟨g, 0, rfl, ?_⟩⟩
  rw [Nat.zero_add, h2.cell i]
  simpa using hu
theorem few_app {ls : List (List UInt8)} {r : List UInt8} (h : few ls) (hr : r.length ≤ 100000) : few (ls ++ [r]) := fun l hl => by
  rcases List.mem_append.1 hl with h1 | h1
  · exact h l h1
  · simp at h1; subst h1; exact hr
theorem app_own_z (ty : TypeId) {w : World} {B g m c2 : Nat} {A2 : Option Addr} {vs : List Value} (hB : Blk w g 22 #[]) (hBg : B ≤ g) (hr : Rd w 1 A2 m c2 vs) (h1 : ∀ u ∈ vs, u.oneCell' = true) (hm : m ≤ 100) (hb : B ≤ w.heap.size) :
    ∃ v w2, (Builtin.append_ #[33, 33] ty #[.slice (some ⟨g, 0, none⟩) 0 0, .slice A2 m c2]).run Try.prog w = .ok v w2 ∧ ∃ A' c', v = .slice A' m c' ∧ w2.ownsRow B 22 1 (.slice A' m c') m vs ∧ w.grownBy w2 (some g) ∧ Below B w w2 := by
  obtain ⟨i0, hi, hz0, hz1, hz2i⟩ := info_parts infoHash
  have hown := own_empty hB hBg
  obtain ⟨A', c', w', hrun, h2, h3, _⟩ := run_append_rd (P := Try.prog) 33 ty i0 (.slice none 0 0) 24 Try.underlying33 hi hz0 hz1 hz2i rfl (by decide) hown hr h1 (by unfold maxLen; omega) (by omega) hb
  rw [Nat.zero_add] at h2 hrun
  exact ⟨_, w', hrun, A', c', rfl, h2, h3, (Below.refl B w).grown h3 hb (fun k hk => (hown.lt k hk).1)⟩
theorem app_items_z (ty : TypeId) {w : World} {B n c c1 c2 : Nat} {A A1 A2 : Option Addr} {P : List (List UInt8)} {rt : List UInt8} (ho : OwnItems 1 encB id 22 w B A n c P) (hr : Rd w 1 A2 1 c2 [.slice A1 32 c1]) (hb : Bytes w A1 32 c1 rt) (hlt : ∀ a, A1 = some a → a.block < B) (hm : n ≤ 100) (hB : B ≤ w.heap.size) :
    ∃ v w2, (Builtin.append_ #[33, 33] ty #[.slice A n c, .slice A2 1 c2]).run Try.prog w = .ok v w2 ∧ ∃ A' c', v = .slice A' (n + 1) c' ∧ OwnItems 1 encB id 22 w2 B A' (n + 1) c' (P ++ [rt]) ∧ Below B w w2 := by
  obtain ⟨i0, hi, hz0, hz1, hz2i⟩ := info_parts infoHash
  have hlo : ∀ e, (Value.slice A n c).ownBlock = some e → B ≤ e := fun e he => by
    obtain ⟨vs, hw, _⟩ := ho
    exact (hw.lt e he).1
  obtain ⟨A', c', w', hrun, h2, _, h4⟩ := run_append_items (P := Try.prog) (enc := encB) (dat := id) 33 ty i0 (.slice none 0 0) 24 Try.underlying33 hi hz0 hz1 hz2i rfl (by decide) ho rt (A1 := A1) (n1 := 32) (c1 := c1) rfl hr (by simp [encB, Value.oneCell']) hb (fun a ha hn e => by have h1 := hlt a ha; have h2 := hlo _ e; omega) (by unfold maxLen; omega) (by omega) hB
  exact ⟨_, w', hrun, A', c', rfl, h2, h4⟩
set_option maxRecDepth 100000 in
set_option maxHeartbeats 12000000 in
theorem treeRefuses_walk (s n i k t bb : Int) (w : World) :
    Calls Try.prog 10 #[.int .i64 s, .int .i64 n, .int .i64 i, .int .i64 k, .int .i64 t, .int .i64 bb] w fun e w' => e = .returned (.bool true) ∧ Below w.heap.size w w' := by
  obtain ⟨i0, hi, hz0, hz1, hz2i⟩ := info_parts infoHash
  obtain ⟨x, hx, hx2⟩ : ∃ x : Nat, s % 1000 = (x : Int) ∧ x < 1000 := ⟨(s % 1000).toNat, by omega, by omega⟩
  have Hx := Lib.hid hx
  clear hx
  obtain ⟨y, hy, hy2⟩ : ∃ y : Nat, n % 20 = (y : Int) ∧ y < 20 := ⟨(n % 20).toNat, by omega, by omega⟩
  have Hy := Lib.hid hy
  clear hy
  go_enter Try.func10, Try.ntmps10
  go_wp2_with fail
  refine (within_any n 20 (by decide) (by decide) _).mono ?_
  rintro e w1 ⟨rfl, rfl⟩
  rw [Hy.out]
  obtain ⟨N, hN⟩ : ∃ N : Nat, (2 : Int) + (y : Int) = (N : Int) := ⟨2 + y, by omega⟩
  have hN2 : 2 ≤ N := by omega
  have hN3 : N ≤ 22 := by omega
  go_wp2_with fail
  clear hN
  refine (leaves_any s x N _ Hx.out (by omega)).mono ?_
  rintro e w1 ⟨AL, cL, rfl, hv, hb⟩
  have hbx : Below w.heap.size w w1 := below_via (by go_grown) hb (by first | (simp; done) | (simp; omega))
  have LB := Lib.hid hv.lists
  have R1 := Lib.hid hbx
  have hs1 := R1.out.size
  clear hb hbx 
  clear hv
  have l1 := LB.out.le
  have l2 := LB.out.cap
  have HF := Lib.hid (leavesL_few x N)
  have HLn := Lib.hid (leavesL_length x N)
  obtain ⟨L, hL⟩ : ∃ L, leavesL x N = L := ⟨_, rfl⟩
  rw [hL] at LB HF HLn
  clear hL
  obtain ⟨z, hz, hz2⟩ : ∃ z : Nat, i % (N : Int) = (z : Int) ∧ z < N := by
    have h1 := Int.emod_nonneg i (show (N : Int) ≠ 0 by omega)
    have h2 := Int.emod_lt_of_pos i (show (0 : Int) < N by omega)
    exact ⟨(i % (N : Int)).toNat, by omega, by omega⟩
  have HMz := Lib.hid hz
  clear hz
  obtain ⟨q, hq, hq2⟩ : ∃ q : Nat, k % (N : Int) = (q : Int) ∧ q < N := by
    have h1 := Int.emod_nonneg k (show (N : Int) ≠ 0 by omega)
    have h2 := Int.emod_lt_of_pos k (show (0 : Int) < N by omega)
    exact ⟨(k % (N : Int)).toNat, by omega, by omega⟩
  have HMq := Lib.hid hq
  clear hq
  go_wp2_with fail
  refine (within_any i N (by omega) (by omega) _).mono ?_
  rintro e w2 ⟨rfl, rfl⟩
  rw [HMz.out]
  go_wp2_with fail
  refine (within_any k N (by omega) (by omega) _).mono ?_
  rintro e w2 ⟨rfl, rfl⟩
  rw [HMq.out]
  go_wp2_with fail
  refine (refRootOf_ok LB.out (by omega) HF.out).mono ?_
  rintro e w2 ⟨A1, c1, rfl, hv, hf, hb⟩
  have hbx : Below w1.heap.size w1 w2 := below_via (by go_grown) hb (by first | (simp; done) | (simp; omega))
  have LB := Lib.hid (LB.out.stays hbx)
  have RB := Lib.hid hv
  have R2 := Lib.hid (R1.out.trans (hbx.mono hs1))
  have hs2 := R2.out.size
  clear hb hbx hv
  clear R1
  clear hf
  go_wp2_with fail
  refine (refPathOf_ok LB.out (by omega) HF.out hz2).mono ?_
  rintro e w3 ⟨A2, m, c2, rfl, hv, hm2, hb⟩
  have hbx : Below w2.heap.size w2 w3 := below_via (by go_grown) hb (by first | (simp; done) | (simp; omega))
  have LB := Lib.hid (LB.out.stays hbx)
  have RB := Lib.hid (RB.out.stays hbx)
  have PO := Lib.hid hv
  have R3 := Lib.hid (R2.out.trans (hbx.mono hs2))
  have hs3 := R3.out.size
  clear hb hbx hv
  clear R2
  have hml : m = depthN N z := by rw [← PO.out.len (by decide), path_length, List.length_map, HLn.out]
  have hm0 : 0 < m := by
    rw [hml, depthN, if_neg (by omega)]
    split <;> omega
  have HML := Lib.hid hml
  clear hml
  have HPA := Lib.hid (path_all32 _ (L.map leafL) z rfl (all32_leaves L))
  have HCK := Lib.hid (check_path L z N HLn.out hz2)
  have HPl := Lib.hid (PO.out.len (by decide))
  have hShort : Hid (checkB N z (listAt L z) ((pathL (L.map leafL) z).drop 1) (rootL (L.map leafL)) = false) := by
    unfold Hid checkB climbO
    rw [(climb_some N z (leafL (listAt L z)) ((pathL (L.map leafL) z).drop 1)).2 (by rw [List.length_drop, HPl.out, ← HML.out]; omega)]
  have hLong : Hid (∀ r : List UInt8, checkB N z (listAt L z) (pathL (L.map leafL) z ++ [r]) (rootL (L.map leafL)) = false) := by
    intro r
    have := climb_path (L.map leafL) z [r] (by rw [List.length_map, HLn.out]; exact hz2)
    rw [List.length_map, HLn.out, getD_leaf L z (by rw [HLn.out]; exact hz2)] at this
    unfold checkB climbO
    rw [this]
  obtain ⟨P, hP⟩ : ∃ P, pathL (L.map leafL) z = P := ⟨_, rfl⟩
  try simp only [hP] at LB
  try simp only [hP] at RB
  try simp only [hP] at PO
  try simp only [hP] at HML
  try simp only [hP] at HPA
  try simp only [hP] at HCK
  try simp only [hP] at HPl
  try simp only [hP] at hShort
  try simp only [hP] at hLong
  try simp only [hP] at PL
  try simp only [hP] at ZB
  try simp only [hP] at QB
  try simp only [hP]
  clear hP
  obtain ⟨rt, hRt⟩ : ∃ rt, rootL (L.map leafL) = rt := ⟨_, rfl⟩
  try simp only [hRt] at LB
  try simp only [hRt] at RB
  try simp only [hRt] at PO
  try simp only [hRt] at HML
  try simp only [hRt] at HPA
  try simp only [hRt] at HCK
  try simp only [hRt] at HPl
  try simp only [hRt] at hShort
  try simp only [hRt] at hLong
  try simp only [hRt] at PL
  try simp only [hRt] at ZB
  try simp only [hRt] at QB
  try simp only [hRt]
  clear hRt
  obtain ⟨vs, hown, hI⟩ := PO.out
  have PR : Hid (Rd _ 1 A2 m c2 vs) := own_rd hown
  have PI : Hid (ItemsV 1 encB id _ _ vs P) := hI
  have PL := Lib.hid PO.out.lists
  have hvl : vs.length = m := by have := (own_rd hown).1; omega
  have p1 := PL.out.le
  have p2 := PL.out.cap
  have hsl : ∀ u ∈ vs, u.oneCell' = true := by
    intro u hu
    obtain ⟨j, hj, rfl⟩ := List.mem_iff_getElem.1 hu
    have hjP : j < P.length := by have := hI.1; omega
    obtain ⟨A', n', c', e1, _, _⟩ := hI.2 j _ (List.getElem?_eq_getElem hjP)
    have e2 := e1 0 (by omega)
    rw [Nat.mul_one, Nat.add_zero, List.getElem?_eq_getElem hj] at e2
    simp [encB] at e2
    rw [e2]
    rfl
  have HSL := Lib.hid hsl
  clear PO hown hI hsl
  have hm0b : ((m : Int) == 0) = false := by simp; omega
  obtain ⟨b0, off0, A3, n3, c3, rfl, hcz, hy⟩ := LB.out.at_ hz2
  obtain ⟨b9, off9, A4, n4, c4, e4, hcq, hy2⟩ := LB.out.at_ hq2
  simp only [Option.some.injEq, Addr.mk.injEq] at e4
  obtain ⟨rfl, rfl, _⟩ := e4
  have hn3 : n3 ≤ 100000 := by rw [← hy.len]; exact HF.out.at_ (by rw [HLn.out]; exact hz2)
  have hn4 : n4 ≤ 100000 := by rw [← hy2.len]; exact HF.out.at_ (by rw [HLn.out]; exact hq2)
  have ZB := Lib.hid hy
  have QB := Lib.hid hy2
  have HCz := Lib.hid hcz
  have HCq := Lib.hid hcq
  clear hy hy2 hcz hcq
  have zi : (z : Int) < (N : Int) := by omega
  have zi0 : (0 : Int) ≤ (z : Int) := by omega
  have qi : (q : Int) < (N : Int) := by omega
  have qi0 : (0 : Int) ≤ (q : Int) := by omega
  have hm22 : m ≤ 100 := by omega
  go_wp2_with (at_builtin; refine wpList_append_rd rfl _ _ 33 rfl i0 (.slice none 0 0) 24 Try.underlying33 hi hz0 hz1 hz2i rfl (by decide) rfl (World.ownsRow_lit (base := w3.heap.size) (e := 22) (size := 1) w3 #[] 0 (Nat.le_refl _) (by decide) rfl) rfl (PR.out.stays ((Below.refl _ _).alloc (Nat.le_refl _) _)) HSL.out ?c1 ?c2 ?c3 ?_)
  case c1 => unfold maxLen; omega
  case c2 => omega
  case c3 => simp
  intro A8 c8 w8 hown8 hg8 hb8
  have B8 : Below w3.heap.size w3 w8 := (show Below w3.heap.size w3 _ by go_grown).trans hb8
  obtain ⟨gb, cur, e8, hgb, hB, hc1, hc2i, hcur⟩ := own_blk hown8 hm0
  subst e8
  have SI : Hid (ItemsV 1 encB id w8 (some gb) vs P) := (PI.out.rebase (fun q hq => by injection hq with hq; omega)).stays B8
  have SK := Lib.hid hB
  have HC := Lib.hid hcur
  have HC2 := Lib.hid hc2i
  have hcm8 : c8 ≤ 9223372036854775807 := by unfold maxLen at hc2i; omega
  have BW := Lib.hid B8
  have R8 := Lib.hid (R3.out.trans (B8.mono hs3))
  have hs8 := R8.out.size
  have hsb8 : w3.heap.size ≤ w8.heap.size := B8.size
  clear hown8 hg8 hb8 hB hcur hc2i LB
  obtain ⟨j, hj, hj2⟩ : ∃ j : Nat, t % (m : Int) = (j : Int) ∧ j < m := by
    have h1 := Int.emod_nonneg t (show (m : Int) ≠ 0 by omega)
    have h2 := Int.emod_lt_of_pos t (show (0 : Int) < m by omega)
    exact ⟨(t % (m : Int)).toNat, by omega, by omega⟩
  have HJ := Lib.hid hj
  clear hj
  have ji : (j : Int) < (m : Int) := by omega
  have ji0 : (0 : Int) ≤ (j : Int) := by omega
  go_wp2_with fail
  refine (within_any t m (by omega) (by omega) _).mono ?_
  rintro e w4 ⟨rfl, rfl⟩
  rw [HJ.out]
  go_wp2_with fail
  refine (within_any t m (by omega) (by omega) _).mono ?_
  rintro e w4 ⟨rfl, rfl⟩
  rw [HJ.out]
  have hlsj : (listAt P j).length = 32 := HPA.out.at_ (by rw [HPl.out]; exact hj2)
  have hlt := SI.out.lists (blk_rd SK.out HC.out hvl hc1 HC2.out)
  obtain ⟨b7, off7, A5, n5, c5, e5, hcj, hy⟩ := hlt.at_ hj2
  simp only [Option.some.injEq, Addr.mk.injEq] at e5
  obtain ⟨rfl, rfl, _⟩ := e5
  rw [Nat.zero_add] at hcj
  obtain rfl : n5 = 32 := by rw [← hy.len]; exact hlsj
  have YB := Lib.hid hy
  have y1 := hy.le
  have y2 := hy.cap
  clear hy hlt
  obtain ⟨ch, hch, hCH⟩ := changed_by (listAt P j) 32 bb t hlsj (by decide) (by decide)
  have CH := Lib.hid hCH
  have HLC := Lib.hid hch
  clear hCH hch hlsj
  have SKl := SK.out.lt
  go_wp2_with fail
  refine (CH.out _ _ _ YB.out).mono ?_
  rintro e w4 ⟨A6, c6, rfl, hv, hf, hb⟩
  have hbx : Below w8.heap.size w8 w4 := below_via (by go_grown) hb (by first | (simp; done) | (simp; omega))
  have SI := Lib.hid (SI.out.stays hbx)
  have SK := Lib.hid (SK.out.stays hbx)
  have BW := Lib.hid (BW.out.trans (hbx.mono BW.out.size))
  have YB := Lib.hid (YB.out.stays hbx)
  have VB := Lib.hid hv
  have R4 := Lib.hid (R8.out.trans (hbx.mono hs8))
  have hs4 := R4.out.size
  clear hb hbx hv
  clear R8
  have ZO : Hid (Off A6 32 (some gb)) := Off.fresh hf (fun q hq => by injection hq with hq; omega)
  clear hf hcj SKl
  have hcl := SK.out.cell j
  have hcf := SK.out.frozen j
  have hcs : (cur[j]?).isSome = true := by
    have h1 : j < cur.toList.length := by have := congrArg List.length HC.out; rw [List.length_take, hvl] at this; omega
    simpa using h1
  obtain ⟨u0, hu0⟩ := Option.isSome_iff_exists.1 hcs
  rw [hu0] at hcl
  clear hcs hu0
  have hgw : w.heap.size ≤ gb := by omega
  go_wp2_with fail
  have K2 := SK.out.put j (.slice A6 32 c6)
  have I2 := (itemsV_putS SI.out j (.slice A6 32 c6)).setOne j ch A6 32 c6 (by rw [HPl.out]; exact hj2) (VB.out.kept (grown_put (World.grownBy.refl w4 _) j (.slice A6 32 c6)) ZO.out) ZO.out
  have hcur2 := take_set_cells (u := .slice A6 32 c6) HC.out hj2
  have hR2 := blk_rd K2 hcur2 (by simpa using hvl) hc1 HC2.out
  have BL := Lib.hid (I2.lists hR2)
  have BS : Below w3.heap.size w3 (w4.setCell ⟨gb, j, none⟩ (.slice A6 32 c6)) := BW.out.setCell (p := ⟨gb, j, none⟩) hgb _
  have RN := Lib.hid (R4.out.setCell (p := ⟨gb, j, none⟩) hgw (.slice A6 32 c6))
  obtain ⟨wn, hwn⟩ : ∃ wn, w4.setCell ⟨gb, j, none⟩ (.slice A6 32 c6) = wn := ⟨_, rfl⟩
  rw [hwn] at BL BS RN ⊢
  clear hwn
  have hsn := RN.out.size
  have RB := Lib.hid (RB.out.stays BS)
  have PL := Lib.hid (PL.out.stays BS)
  have ZB := Lib.hid (ZB.out.stays BS)
  have QB := Lib.hid (QB.out.stays BS)
  have PR := Lib.hid (PR.out.stays BS)
  have PI := Lib.hid (PI.out.stays BS)
  have HCz := Lib.hid (cell_stays BS HCz.out)
  have HCq := Lib.hid (cell_stays BS HCq.out)
  have HFP := Lib.hid HPA.out.few
  have HFB : Hid (few (P.set j ch)) := fun l hl => by
    rcases List.mem_or_eq_of_mem_set hl with h | rfl
    · exact HFP.out l h
    · rw [HLC.out]; omega
  have hBL : Hid ((P.set j ch).length = m) := by unfold Hid; rw [List.length_set, HPl.out]
  clear K2 I2 hcur2 hR2 SI SK VB ZO YB hcl hcf BS BW CH
  obtain ⟨P2, hP2⟩ : ∃ P2, P.set j ch = P2 := ⟨_, rfl⟩
  rw [hP2] at BL HFB hBL
  clear hP2
  generalize hga : checkB N q (listAt L z) P rt = ga
  have HGa := Lib.hid hga
  clear hga
  generalize hgb : checkB N z (listAt L q) P rt = gb
  have HGb := Lib.hid hgb
  clear hgb
  generalize hgc : checkB N z (listAt L z) P2 rt = gc
  have HGc := Lib.hid hgc
  clear hgc
  have s1 := run_cutFrom und_lists size_list (A := A2) (n := m) (c := c2) 1 1 (m - 1) (c2 - 1) rfl (by omega) rfl rfl
  have m1i : (1 : Int) ≤ (m : Int) := by omega
  have PL1 := Lib.hid (PL.out.cutFrom 1 (by omega) (d := m - 1) (k := c2 - 1) rfl rfl)
  have HFP1 := Lib.hid (HFP.out.drop 1)
  have z0 := HCz.out
  have z1 := HCq.out
  have RX : Below wn.heap.size wn wn := Below.refl _ _
  clear HML HPA
  have hrt : rt.length ≤ 100000 := by rw [RB.out.len]; omega
  simp only [List.append_eq, List.cons_append, List.nil_append]
  clear RX z0 z1
  have hRBlt : ∀ a, A1 = some a → a.block < wn.heap.size := fun a ha => RB.out.lt (by decide) a ha
  refine zBegin (Z := []) (S := fun w' => Below wn.heap.size wn w') (by kernel_rfl) ?pz1 ((Below.refl wn.heap.size wn).drew) (fun hPQ wd hbd hHeld => ?sz1)
  case pz1 => (repeat (with_reducible first | refine PQ.then ?_ | refine PQ.block ?_)); exact fun _ _ d _ _ h => by cases d <;> exact h
  case sz1 =>
    replace hHeld : Below wn.heap.size wn wd := hHeld
    clear hbd
    refine zMake (j := 0) (d := (some 72)) (R := fun v w' => v = .bool true ∧ Below wd.heap.size wd w') rfl rfl (by kernel_rfl) (by rfl) ((treeKnown _).mono fun e q hq => ⟨_, hq.1, rfl, hq.2⟩) (by go_simp) ?_
    rintro v u1 ⟨rfl, hb⟩
    refine ⟨hHeld.trans (hb.mono hHeld.size), ?_⟩
    try simp only [Act.put, List.setIfInBounds_toArray, List.set_cons_zero, List.set_cons_succ]
    have hHeldN : Below wn.heap.size wn u1 := hHeld.trans (hb.mono hHeld.size)
    clear hHeld hb
    have hHeld := hHeldN
    clear hHeldN
    refine zVal (i := 1) (d := (some 73)) (v := ?_) rfl rfl (by kernel_rfl) (by kernel_rfl) (by kernel_rfl) (by kernel_rfl) hPQ (by rfl) (fun wq hSw => ?_) hHeld ?_
    rotate_left 1
    · have z0 := cell_stays hSw HCz.out; have z1 := cell_stays hSw HCq.out; go_simp; try with_reducible rfl
    try simp only [Act.put, List.setIfInBounds_toArray, List.set_cons_zero, List.set_cons_succ]
    refine zVal (i := 2) (d := (some 74)) (v := ?_) rfl rfl (by kernel_rfl) (by kernel_rfl) (by kernel_rfl) (by kernel_rfl) hPQ (by rfl) (fun wq hSw => ?_) hHeld ?_
    rotate_left 1
    · have z0 := cell_stays hSw HCz.out; have z1 := cell_stays hSw HCq.out; go_simp; try with_reducible rfl
    try simp only [Act.put, List.setIfInBounds_toArray, List.set_cons_zero, List.set_cons_succ]
    refine zVal (i := 3) (d := (some 75)) (v := ?_) rfl rfl (by kernel_rfl) (by kernel_rfl) (by kernel_rfl) (by kernel_rfl) hPQ (by rfl) (fun wq hSw => ?_) hHeld ?_
    rotate_left 1
    · have z0 := cell_stays hSw HCz.out; have z1 := cell_stays hSw HCq.out; go_simp; try with_reducible rfl
    try simp only [Act.put, List.setIfInBounds_toArray, List.set_cons_zero, List.set_cons_succ]
    refine zVal (i := 4) (d := (some 76)) (v := ?_) rfl rfl (by kernel_rfl) (by kernel_rfl) (by kernel_rfl) (by kernel_rfl) hPQ (by rfl) (fun wq hSw => ?_) hHeld ?_
    rotate_left 1
    · have z0 := cell_stays hSw HCz.out; have z1 := cell_stays hSw HCq.out; go_simp; try with_reducible rfl
    try simp only [Act.put, List.setIfInBounds_toArray, List.set_cons_zero, List.set_cons_succ]
    refine zVal (i := 5) (d := (some 77)) (v := ?_) rfl rfl (by kernel_rfl) (by kernel_rfl) (by kernel_rfl) (by kernel_rfl) hPQ (by rfl) (fun wq hSw => ?_) hHeld ?_
    rotate_left 1
    · have z0 := cell_stays hSw HCz.out; have z1 := cell_stays hSw HCq.out; go_simp; try with_reducible rfl
    try simp only [Act.put, List.setIfInBounds_toArray, List.set_cons_zero, List.set_cons_succ]
    refine zVal (i := 6) (d := (some 78)) (v := ?_) rfl rfl (by kernel_rfl) (by kernel_rfl) (by kernel_rfl) (by kernel_rfl) hPQ (by rfl) (fun wq hSw => ?_) hHeld ?_
    rotate_left 1
    · have z0 := cell_stays hSw HCz.out; have z1 := cell_stays hSw HCq.out; go_simp; try with_reducible rfl
    try simp only [Act.put, List.setIfInBounds_toArray, List.set_cons_zero, List.set_cons_succ]
    refine zVal (i := 7) (d := (some 79)) (v := ?_) rfl rfl (by kernel_rfl) (by kernel_rfl) (by kernel_rfl) (by kernel_rfl) hPQ (by rfl) (fun wq hSw => ?_) hHeld ?_
    rotate_left 1
    · have z0 := cell_stays hSw HCz.out; have z1 := cell_stays hSw HCq.out; go_simp; try with_reducible rfl
    try simp only [Act.put, List.setIfInBounds_toArray, List.set_cons_zero, List.set_cons_succ]
    refine zVal (i := 8) (d := (some 80)) (v := ?_) rfl rfl (by kernel_rfl) (by kernel_rfl) (by kernel_rfl) (by kernel_rfl) hPQ (by rfl) (fun wq hSw => ?_) hHeld ?_
    rotate_left 1
    · have z0 := cell_stays hSw HCz.out; have z1 := cell_stays hSw HCq.out; go_simp; try with_reducible rfl
    try simp only [Act.put, List.setIfInBounds_toArray, List.set_cons_zero, List.set_cons_succ]
    refine zVal (i := 9) (d := (some 81)) (v := ?_) rfl rfl (by kernel_rfl) (by kernel_rfl) (by kernel_rfl) (by kernel_rfl) hPQ (by rfl) (fun wq hSw => ?_) hHeld ?_
    rotate_left 1
    · have z0 := cell_stays hSw HCz.out; have z1 := cell_stays hSw HCq.out; go_simp; try with_reducible rfl
    try simp only [Act.put, List.setIfInBounds_toArray, List.set_cons_zero, List.set_cons_succ]
    refine zVal (i := 11) (d := (some 83)) (v := ?_) rfl rfl (by kernel_rfl) (by kernel_rfl) (by kernel_rfl) (by kernel_rfl) hPQ (by rfl) (fun wq hSw => ?_) hHeld ?_
    rotate_left 1
    · have z0 := cell_stays hSw HCz.out; have z1 := cell_stays hSw HCq.out; go_simp; try with_reducible rfl
    try simp only [Act.put, List.setIfInBounds_toArray, List.set_cons_zero, List.set_cons_succ]
    refine zVal (i := 12) (d := (some 84)) (v := ?_) rfl rfl (by kernel_rfl) (by kernel_rfl) (by kernel_rfl) (by kernel_rfl) hPQ (by rfl) (fun wq hSw => ?_) hHeld ?_
    rotate_left 1
    · have z0 := cell_stays hSw HCz.out; have z1 := cell_stays hSw HCq.out; go_simp; try with_reducible rfl
    try simp only [Act.put, List.setIfInBounds_toArray, List.set_cons_zero, List.set_cons_succ]
    refine zVal (i := 13) (d := (some 85)) (v := ?_) rfl rfl (by kernel_rfl) (by kernel_rfl) (by kernel_rfl) (by kernel_rfl) hPQ (by rfl) (fun wq hSw => ?_) hHeld ?_
    rotate_left 1
    · have z0 := cell_stays hSw HCz.out; have z1 := cell_stays hSw HCq.out; go_simp; try with_reducible rfl
    try simp only [Act.put, List.setIfInBounds_toArray, List.set_cons_zero, List.set_cons_succ]
    refine zVal (i := 14) (d := (some 86)) (v := ?_) rfl rfl (by kernel_rfl) (by kernel_rfl) (by kernel_rfl) (by kernel_rfl) hPQ (by rfl) (fun wq hSw => ?_) hHeld ?_
    rotate_left 1
    · have z0 := cell_stays hSw HCz.out; have z1 := cell_stays hSw HCq.out; go_simp; try with_reducible rfl
    try simp only [Act.put, List.setIfInBounds_toArray, List.set_cons_zero, List.set_cons_succ]
    refine zVal (i := 15) (d := (some 87)) (v := ?_) rfl rfl (by kernel_rfl) (by kernel_rfl) (by kernel_rfl) (by kernel_rfl) hPQ (by rfl) (fun wq hSw => ?_) hHeld ?_
    rotate_left 1
    · have z0 := cell_stays hSw HCz.out; have z1 := cell_stays hSw HCq.out; go_simp; try with_reducible rfl
    try simp only [Act.put, List.setIfInBounds_toArray, List.set_cons_zero, List.set_cons_succ]
    refine zVal (i := 16) (d := (some 88)) (v := ?_) rfl rfl (by kernel_rfl) (by kernel_rfl) (by kernel_rfl) (by kernel_rfl) hPQ (by rfl) (fun wq hSw => ?_) hHeld ?_
    rotate_left 1
    · have z0 := cell_stays hSw HCz.out; have z1 := cell_stays hSw HCq.out; go_simp; try with_reducible rfl
    try simp only [Act.put, List.setIfInBounds_toArray, List.set_cons_zero, List.set_cons_succ]
    refine zVal (i := 17) (d := (some 89)) (v := ?_) rfl rfl (by kernel_rfl) (by kernel_rfl) (by kernel_rfl) (by kernel_rfl) hPQ (by rfl) (fun wq hSw => ?_) hHeld ?_
    rotate_left 1
    · have z0 := cell_stays hSw HCz.out; have z1 := cell_stays hSw HCq.out; go_simp; try with_reducible rfl
    try simp only [Act.put, List.setIfInBounds_toArray, List.set_cons_zero, List.set_cons_succ]
    refine zVal (i := 18) (d := (some 90)) (v := ?_) rfl rfl (by kernel_rfl) (by kernel_rfl) (by kernel_rfl) (by kernel_rfl) hPQ (by rfl) (fun wq hSw => ?_) hHeld ?_
    rotate_left 1
    · have z0 := cell_stays hSw HCz.out; have z1 := cell_stays hSw HCq.out; go_simp; try with_reducible rfl
    try simp only [Act.put, List.setIfInBounds_toArray, List.set_cons_zero, List.set_cons_succ]
    refine zMake (j := 10) (d := (some 82)) (R := fun v w' => v = .bool ga ∧ Below u1.heap.size u1 w') rfl rfl (by kernel_rfl) (by rfl) ((check_any _ N q _ _ _ _ _ _ _ _ _ _ _ _ (RB.out.stays hHeld) (ZB.out.stays hHeld) (PL.out.stays hHeld) hq2 (by omega) hn3 HFP.out).mono fun e q hq => ⟨_, hq.1, by rw [HGa.out], hq.2⟩) (by go_simp) ?_
    rintro v u2 ⟨rfl, hb⟩
    refine ⟨hHeld.trans (hb.mono hHeld.size), ?_⟩
    try simp only [Act.put, List.setIfInBounds_toArray, List.set_cons_zero, List.set_cons_succ]
    have hHeldN : Below wn.heap.size wn u2 := hHeld.trans (hb.mono hHeld.size)
    clear hHeld hb
    have hHeld := hHeldN
    clear hHeldN
    refine zMake (j := 19) (d := (some 91)) (R := fun v w' => v = .bool ga ∧ Below u2.heap.size u2 w') rfl rfl (by kernel_rfl) (by rfl) ((refCheck_any _ N q _ _ _ _ _ _ _ _ _ _ _ _ (RB.out.stays hHeld) (ZB.out.stays hHeld) (PL.out.stays hHeld) hq2 (by omega) hn3 HFP.out).mono fun e q hq => ⟨_, hq.1, by rw [HGa.out], hq.2⟩) (by go_simp) ?_
    rintro v u3 ⟨rfl, hb⟩
    refine ⟨hHeld.trans (hb.mono hHeld.size), ?_⟩
    try simp only [Act.put, List.setIfInBounds_toArray, List.set_cons_zero, List.set_cons_succ]
    have hHeldN : Below wn.heap.size wn u3 := hHeld.trans (hb.mono hHeld.size)
    clear hHeld hb
    have hHeld := hHeldN
    clear hHeldN
    refine zVal (i := 20) (d := (some 92)) (v := ?_) rfl rfl (by kernel_rfl) (by kernel_rfl) (by kernel_rfl) (by kernel_rfl) hPQ (by rfl) (fun wq hSw => ?_) hHeld ?_
    rotate_left 1
    · have z0 := cell_stays hSw HCz.out; have z1 := cell_stays hSw HCq.out; go_simp; try with_reducible rfl
    try simp only [Act.put, List.setIfInBounds_toArray, List.set_cons_zero, List.set_cons_succ]
    refine zVal (i := 21) (d := (some 93)) (v := ?_) rfl rfl (by kernel_rfl) (by kernel_rfl) (by kernel_rfl) (by kernel_rfl) hPQ (by rfl) (fun wq hSw => ?_) hHeld ?_
    rotate_left 1
    · have z0 := cell_stays hSw HCz.out; have z1 := cell_stays hSw HCq.out; go_simp; try with_reducible rfl
    try simp only [Act.put, List.setIfInBounds_toArray, List.set_cons_zero, List.set_cons_succ]
    refine zVal (i := 22) (d := (some 94)) (v := ?_) rfl rfl (by kernel_rfl) (by kernel_rfl) (by kernel_rfl) (by kernel_rfl) hPQ (by rfl) (fun wq hSw => ?_) hHeld ?_
    rotate_left 1
    · have z0 := cell_stays hSw HCz.out; have z1 := cell_stays hSw HCq.out; go_simp; try with_reducible rfl
    try simp only [Act.put, List.setIfInBounds_toArray, List.set_cons_zero, List.set_cons_succ]
    as_aux_lemma =>
      refine zVal (i := 23) (d := (some 95)) (v := ?_) rfl rfl (by kernel_rfl) (by kernel_rfl) (by kernel_rfl) (by kernel_rfl) hPQ (by rfl) (fun wq hSw => ?_) hHeld ?_
      rotate_left 1
      · have z0 := cell_stays hSw HCz.out; have z1 := cell_stays hSw HCq.out; go_simp; try with_reducible rfl
      try simp only [Act.put, List.setIfInBounds_toArray, List.set_cons_zero, List.set_cons_succ]
      refine zVal (i := 24) (d := (some 96)) (v := ?_) rfl rfl (by kernel_rfl) (by kernel_rfl) (by kernel_rfl) (by kernel_rfl) hPQ (by rfl) (fun wq hSw => ?_) hHeld ?_
      rotate_left 1
      · have z0 := cell_stays hSw HCz.out; have z1 := cell_stays hSw HCq.out; go_simp; try with_reducible rfl
      try simp only [Act.put, List.setIfInBounds_toArray, List.set_cons_zero, List.set_cons_succ]
      refine zVal (i := 25) (d := (some 97)) (v := ?_) rfl rfl (by kernel_rfl) (by kernel_rfl) (by kernel_rfl) (by kernel_rfl) hPQ (by rfl) (fun wq hSw => ?_) hHeld ?_
      rotate_left 1
      · have z0 := cell_stays hSw HCz.out; have z1 := cell_stays hSw HCq.out; go_simp; try with_reducible rfl
      try simp only [Act.put, List.setIfInBounds_toArray, List.set_cons_zero, List.set_cons_succ]
      refine zVal (i := 26) (d := (some 98)) (v := ?_) rfl rfl (by kernel_rfl) (by kernel_rfl) (by kernel_rfl) (by kernel_rfl) hPQ (by rfl) (fun wq hSw => ?_) hHeld ?_
      rotate_left 1
      · have z0 := cell_stays hSw HCz.out; have z1 := cell_stays hSw HCq.out; go_simp; try with_reducible rfl
      try simp only [Act.put, List.setIfInBounds_toArray, List.set_cons_zero, List.set_cons_succ]
      refine zVal (i := 27) (d := (some 99)) (v := ?_) rfl rfl (by kernel_rfl) (by kernel_rfl) (by kernel_rfl) (by kernel_rfl) hPQ (by rfl) (fun wq hSw => ?_) hHeld ?_
      rotate_left 1
      · have z0 := cell_stays hSw HCz.out; have z1 := cell_stays hSw HCq.out; go_simp; try with_reducible rfl
      try simp only [Act.put, List.setIfInBounds_toArray, List.set_cons_zero, List.set_cons_succ]
      refine zVal (i := 28) (d := (some 100)) (v := ?_) rfl rfl (by kernel_rfl) (by kernel_rfl) (by kernel_rfl) (by kernel_rfl) hPQ (by rfl) (fun wq hSw => ?_) hHeld ?_
      rotate_left 1
      · have z0 := cell_stays hSw HCz.out; have z1 := cell_stays hSw HCq.out; go_simp; try with_reducible rfl
      try simp only [Act.put, List.setIfInBounds_toArray, List.set_cons_zero, List.set_cons_succ]
      refine zVal (i := 29) (d := (some 101)) (v := ?_) rfl rfl (by kernel_rfl) (by kernel_rfl) (by kernel_rfl) (by kernel_rfl) hPQ (by rfl) (fun wq hSw => ?_) hHeld ?_
      rotate_left 1
      · have z0 := cell_stays hSw HCz.out; have z1 := cell_stays hSw HCq.out; go_simp; try with_reducible rfl
      try simp only [Act.put, List.setIfInBounds_toArray, List.set_cons_zero, List.set_cons_succ]
      refine zVal (i := 30) (d := (some 102)) (v := ?_) rfl rfl (by kernel_rfl) (by kernel_rfl) (by kernel_rfl) (by kernel_rfl) hPQ (by rfl) (fun wq hSw => ?_) hHeld ?_
      rotate_left 1
      · have z0 := cell_stays hSw HCz.out; have z1 := cell_stays hSw HCq.out; go_simp; try with_reducible rfl
      try simp only [Act.put, List.setIfInBounds_toArray, List.set_cons_zero, List.set_cons_succ]
      refine zVal (i := 32) (d := (some 104)) (v := ?_) rfl rfl (by kernel_rfl) (by kernel_rfl) (by kernel_rfl) (by kernel_rfl) hPQ (by rfl) (fun wq hSw => ?_) hHeld ?_
      rotate_left 1
      · have z0 := cell_stays hSw HCz.out; have z1 := cell_stays hSw HCq.out; go_simp; try with_reducible rfl
      try simp only [Act.put, List.setIfInBounds_toArray, List.set_cons_zero, List.set_cons_succ]
      refine zVal (i := 33) (d := (some 105)) (v := ?_) rfl rfl (by kernel_rfl) (by kernel_rfl) (by kernel_rfl) (by kernel_rfl) hPQ (by rfl) (fun wq hSw => ?_) hHeld ?_
      rotate_left 1
      · have z0 := cell_stays hSw HCz.out; have z1 := cell_stays hSw HCq.out; go_simp; try with_reducible rfl
      try simp only [Act.put, List.setIfInBounds_toArray, List.set_cons_zero, List.set_cons_succ]
      refine zVal (i := 34) (d := (some 106)) (v := ?_) rfl rfl (by kernel_rfl) (by kernel_rfl) (by kernel_rfl) (by kernel_rfl) hPQ (by rfl) (fun wq hSw => ?_) hHeld ?_
      rotate_left 1
      · have z0 := cell_stays hSw HCz.out; have z1 := cell_stays hSw HCq.out; go_simp; try with_reducible rfl
      try simp only [Act.put, List.setIfInBounds_toArray, List.set_cons_zero, List.set_cons_succ]
      refine zVal (i := 35) (d := (some 107)) (v := ?_) rfl rfl (by kernel_rfl) (by kernel_rfl) (by kernel_rfl) (by kernel_rfl) hPQ (by rfl) (fun wq hSw => ?_) hHeld ?_
      rotate_left 1
      · have z0 := cell_stays hSw HCz.out; have z1 := cell_stays hSw HCq.out; go_simp; try with_reducible rfl
      try simp only [Act.put, List.setIfInBounds_toArray, List.set_cons_zero, List.set_cons_succ]
      refine zVal (i := 36) (d := (some 108)) (v := ?_) rfl rfl (by kernel_rfl) (by kernel_rfl) (by kernel_rfl) (by kernel_rfl) hPQ (by rfl) (fun wq hSw => ?_) hHeld ?_
      rotate_left 1
      · have z0 := cell_stays hSw HCz.out; have z1 := cell_stays hSw HCq.out; go_simp; try with_reducible rfl
      try simp only [Act.put, List.setIfInBounds_toArray, List.set_cons_zero, List.set_cons_succ]
      refine zVal (i := 37) (d := (some 109)) (v := ?_) rfl rfl (by kernel_rfl) (by kernel_rfl) (by kernel_rfl) (by kernel_rfl) hPQ (by rfl) (fun wq hSw => ?_) hHeld ?_
      rotate_left 1
      · have z0 := cell_stays hSw HCz.out; have z1 := cell_stays hSw HCq.out; go_simp; try with_reducible rfl
      try simp only [Act.put, List.setIfInBounds_toArray, List.set_cons_zero, List.set_cons_succ]
      refine zVal (i := 38) (d := (some 110)) (v := ?_) rfl rfl (by kernel_rfl) (by kernel_rfl) (by kernel_rfl) (by kernel_rfl) hPQ (by rfl) (fun wq hSw => ?_) hHeld ?_
      rotate_left 1
      · have z0 := cell_stays hSw HCz.out; have z1 := cell_stays hSw HCq.out; go_simp; try with_reducible rfl
      try simp only [Act.put, List.setIfInBounds_toArray, List.set_cons_zero, List.set_cons_succ]
      refine zVal (i := 39) (d := (some 111)) (v := ?_) rfl rfl (by kernel_rfl) (by kernel_rfl) (by kernel_rfl) (by kernel_rfl) hPQ (by rfl) (fun wq hSw => ?_) hHeld ?_
      rotate_left 1
      · have z0 := cell_stays hSw HCz.out; have z1 := cell_stays hSw HCq.out; go_simp; try with_reducible rfl
      try simp only [Act.put, List.setIfInBounds_toArray, List.set_cons_zero, List.set_cons_succ]
      refine zMake (j := 31) (d := (some 103)) (R := fun v w' => v = .bool gb ∧ Below u3.heap.size u3 w') rfl rfl (by kernel_rfl) (by rfl) ((check_any _ N z _ _ _ _ _ _ _ _ _ _ _ _ (RB.out.stays hHeld) (QB.out.stays hHeld) (PL.out.stays hHeld) hz2 (by omega) hn4 HFP.out).mono fun e q hq => ⟨_, hq.1, by rw [HGb.out], hq.2⟩) (by go_simp) ?_
      rintro v u4 ⟨rfl, hb⟩
      refine ⟨hHeld.trans (hb.mono hHeld.size), ?_⟩
      try simp only [Act.put, List.setIfInBounds_toArray, List.set_cons_zero, List.set_cons_succ]
      have hHeldN : Below wn.heap.size wn u4 := hHeld.trans (hb.mono hHeld.size)
      clear hHeld hb
      have hHeld := hHeldN
      clear hHeldN
      refine zMake (j := 40) (d := (some 112)) (R := fun v w' => v = .bool gb ∧ Below u4.heap.size u4 w') rfl rfl (by kernel_rfl) (by rfl) ((refCheck_any _ N z _ _ _ _ _ _ _ _ _ _ _ _ (RB.out.stays hHeld) (QB.out.stays hHeld) (PL.out.stays hHeld) hz2 (by omega) hn4 HFP.out).mono fun e q hq => ⟨_, hq.1, by rw [HGb.out], hq.2⟩) (by go_simp) ?_
      rintro v u5 ⟨rfl, hb⟩
      refine ⟨hHeld.trans (hb.mono hHeld.size), ?_⟩
      try simp only [Act.put, List.setIfInBounds_toArray, List.set_cons_zero, List.set_cons_succ]
      have hHeldN : Below wn.heap.size wn u5 := hHeld.trans (hb.mono hHeld.size)
      clear hHeld hb
      have hHeld := hHeldN
      clear hHeldN
      refine zVal (i := 41) (d := (some 113)) (v := ?_) rfl rfl (by kernel_rfl) (by kernel_rfl) (by kernel_rfl) (by kernel_rfl) hPQ (by rfl) (fun wq hSw => ?_) hHeld ?_
      rotate_left 1
      · have z0 := cell_stays hSw HCz.out; have z1 := cell_stays hSw HCq.out; go_simp; try with_reducible rfl
      try simp only [Act.put, List.setIfInBounds_toArray, List.set_cons_zero, List.set_cons_succ]
      refine zVal (i := 42) (d := (some 114)) (v := ?_) rfl rfl (by kernel_rfl) (by kernel_rfl) (by kernel_rfl) (by kernel_rfl) hPQ (by rfl) (fun wq hSw => ?_) hHeld ?_
      rotate_left 1
      · have z0 := cell_stays hSw HCz.out; have z1 := cell_stays hSw HCq.out; go_simp; try with_reducible rfl
      try simp only [Act.put, List.setIfInBounds_toArray, List.set_cons_zero, List.set_cons_succ]
      refine zVal (i := 43) (d := (some 115)) (v := ?_) rfl rfl (by kernel_rfl) (by kernel_rfl) (by kernel_rfl) (by kernel_rfl) hPQ (by rfl) (fun wq hSw => ?_) hHeld ?_
      rotate_left 1
      · have z0 := cell_stays hSw HCz.out; have z1 := cell_stays hSw HCq.out; go_simp; try with_reducible rfl
      try simp only [Act.put, List.setIfInBounds_toArray, List.set_cons_zero, List.set_cons_succ]
      as_aux_lemma =>
        refine zVal (i := 44) (d := (some 116)) (v := ?_) rfl rfl (by kernel_rfl) (by kernel_rfl) (by kernel_rfl) (by kernel_rfl) hPQ (by rfl) (fun wq hSw => ?_) hHeld ?_
        rotate_left 1
        · have z0 := cell_stays hSw HCz.out; have z1 := cell_stays hSw HCq.out; go_simp; try with_reducible rfl
        try simp only [Act.put, List.setIfInBounds_toArray, List.set_cons_zero, List.set_cons_succ]
        refine zVal (i := 45) (d := (some 117)) (v := ?_) rfl rfl (by kernel_rfl) (by kernel_rfl) (by kernel_rfl) (by kernel_rfl) hPQ (by rfl) (fun wq hSw => ?_) hHeld ?_
        rotate_left 1
        · have z0 := cell_stays hSw HCz.out; have z1 := cell_stays hSw HCq.out; go_simp; try with_reducible rfl
        try simp only [Act.put, List.setIfInBounds_toArray, List.set_cons_zero, List.set_cons_succ]
        refine zVal (i := 46) (d := (some 118)) (v := ?_) rfl rfl (by kernel_rfl) (by kernel_rfl) (by kernel_rfl) (by kernel_rfl) hPQ (by rfl) (fun wq hSw => ?_) hHeld ?_
        rotate_left 1
        · have z0 := cell_stays hSw HCz.out; have z1 := cell_stays hSw HCq.out; go_simp; try with_reducible rfl
        try simp only [Act.put, List.setIfInBounds_toArray, List.set_cons_zero, List.set_cons_succ]
        refine zVal (i := 47) (d := (some 119)) (v := ?_) rfl rfl (by kernel_rfl) (by kernel_rfl) (by kernel_rfl) (by kernel_rfl) hPQ (by rfl) (fun wq hSw => ?_) hHeld ?_
        rotate_left 1
        · have z0 := cell_stays hSw HCz.out; have z1 := cell_stays hSw HCq.out; go_simp; try with_reducible rfl
        try simp only [Act.put, List.setIfInBounds_toArray, List.set_cons_zero, List.set_cons_succ]
        refine zVal (i := 48) (d := (some 120)) (v := ?_) rfl rfl (by kernel_rfl) (by kernel_rfl) (by kernel_rfl) (by kernel_rfl) hPQ (by rfl) (fun wq hSw => ?_) hHeld ?_
        rotate_left 1
        · have z0 := cell_stays hSw HCz.out; have z1 := cell_stays hSw HCq.out; go_simp; try with_reducible rfl
        try simp only [Act.put, List.setIfInBounds_toArray, List.set_cons_zero, List.set_cons_succ]
        refine zVal (i := 49) (d := (some 121)) (v := ?_) rfl rfl (by kernel_rfl) (by kernel_rfl) (by kernel_rfl) (by kernel_rfl) hPQ (by rfl) (fun wq hSw => ?_) hHeld ?_
        rotate_left 1
        · have z0 := cell_stays hSw HCz.out; have z1 := cell_stays hSw HCq.out; go_simp; try with_reducible rfl
        try simp only [Act.put, List.setIfInBounds_toArray, List.set_cons_zero, List.set_cons_succ]
        refine zVal (i := 50) (d := (some 122)) (v := ?_) rfl rfl (by kernel_rfl) (by kernel_rfl) (by kernel_rfl) (by kernel_rfl) hPQ (by rfl) (fun wq hSw => ?_) hHeld ?_
        rotate_left 1
        · have z0 := cell_stays hSw HCz.out; have z1 := cell_stays hSw HCq.out; go_simp; try with_reducible rfl
        try simp only [Act.put, List.setIfInBounds_toArray, List.set_cons_zero, List.set_cons_succ]
        refine zVal (i := 51) (d := (some 123)) (v := ?_) rfl rfl (by kernel_rfl) (by kernel_rfl) (by kernel_rfl) (by kernel_rfl) hPQ (by rfl) (fun wq hSw => ?_) hHeld ?_
        rotate_left 1
        · have z0 := cell_stays hSw HCz.out; have z1 := cell_stays hSw HCq.out; go_simp; try with_reducible rfl
        try simp only [Act.put, List.setIfInBounds_toArray, List.set_cons_zero, List.set_cons_succ]
        refine zVal (i := 53) (d := (some 125)) (v := ?_) rfl rfl (by kernel_rfl) (by kernel_rfl) (by kernel_rfl) (by kernel_rfl) hPQ (by rfl) (fun wq hSw => ?_) hHeld ?_
        rotate_left 1
        · have z0 := cell_stays hSw HCz.out; have z1 := cell_stays hSw HCq.out; go_simp; try with_reducible rfl
        try simp only [Act.put, List.setIfInBounds_toArray, List.set_cons_zero, List.set_cons_succ]
        refine zVal (i := 54) (d := (some 126)) (v := ?_) rfl rfl (by kernel_rfl) (by kernel_rfl) (by kernel_rfl) (by kernel_rfl) hPQ (by rfl) (fun wq hSw => ?_) hHeld ?_
        rotate_left 1
        · have z0 := cell_stays hSw HCz.out; have z1 := cell_stays hSw HCq.out; go_simp; try with_reducible rfl
        try simp only [Act.put, List.setIfInBounds_toArray, List.set_cons_zero, List.set_cons_succ]
        refine zVal (i := 55) (d := (some 127)) (v := ?_) rfl rfl (by kernel_rfl) (by kernel_rfl) (by kernel_rfl) (by kernel_rfl) hPQ (by rfl) (fun wq hSw => ?_) hHeld ?_
        rotate_left 1
        · have z0 := cell_stays hSw HCz.out; have z1 := cell_stays hSw HCq.out; go_simp; try with_reducible rfl
        try simp only [Act.put, List.setIfInBounds_toArray, List.set_cons_zero, List.set_cons_succ]
        refine zVal (i := 56) (d := (some 128)) (v := ?_) rfl rfl (by kernel_rfl) (by kernel_rfl) (by kernel_rfl) (by kernel_rfl) hPQ (by rfl) (fun wq hSw => ?_) hHeld ?_
        rotate_left 1
        · have z0 := cell_stays hSw HCz.out; have z1 := cell_stays hSw HCq.out; go_simp; try with_reducible rfl
        try simp only [Act.put, List.setIfInBounds_toArray, List.set_cons_zero, List.set_cons_succ]
        refine zVal (i := 57) (d := (some 129)) (v := ?_) rfl rfl (by kernel_rfl) (by kernel_rfl) (by kernel_rfl) (by kernel_rfl) hPQ (by rfl) (fun wq hSw => ?_) hHeld ?_
        rotate_left 1
        · have z0 := cell_stays hSw HCz.out; have z1 := cell_stays hSw HCq.out; go_simp; try with_reducible rfl
        try simp only [Act.put, List.setIfInBounds_toArray, List.set_cons_zero, List.set_cons_succ]
        refine zVal (i := 58) (d := (some 130)) (v := ?_) rfl rfl (by kernel_rfl) (by kernel_rfl) (by kernel_rfl) (by kernel_rfl) hPQ (by rfl) (fun wq hSw => ?_) hHeld ?_
        rotate_left 1
        · have z0 := cell_stays hSw HCz.out; have z1 := cell_stays hSw HCq.out; go_simp; try with_reducible rfl
        try simp only [Act.put, List.setIfInBounds_toArray, List.set_cons_zero, List.set_cons_succ]
        refine zVal (i := 59) (d := (some 131)) (v := ?_) rfl rfl (by kernel_rfl) (by kernel_rfl) (by kernel_rfl) (by kernel_rfl) hPQ (by rfl) (fun wq hSw => ?_) hHeld ?_
        rotate_left 1
        · have z0 := cell_stays hSw HCz.out; have z1 := cell_stays hSw HCq.out; go_simp; try with_reducible rfl
        try simp only [Act.put, List.setIfInBounds_toArray, List.set_cons_zero, List.set_cons_succ]
        refine zVal (i := 60) (d := (some 132)) (v := ?_) rfl rfl (by kernel_rfl) (by kernel_rfl) (by kernel_rfl) (by kernel_rfl) hPQ (by rfl) (fun wq hSw => ?_) hHeld ?_
        rotate_left 1
        · have z0 := cell_stays hSw HCz.out; have z1 := cell_stays hSw HCq.out; go_simp; try with_reducible rfl
        try simp only [Act.put, List.setIfInBounds_toArray, List.set_cons_zero, List.set_cons_succ]
        refine zMake (j := 52) (d := (some 124)) (R := fun v w' => v = .bool gc ∧ Below u5.heap.size u5 w') rfl rfl (by kernel_rfl) (by rfl) ((check_any _ N z _ _ _ _ _ _ _ _ _ _ _ _ (RB.out.stays hHeld) (ZB.out.stays hHeld) (BL.out.stays hHeld) hz2 (by omega) hn3 HFB.out).mono fun e q hq => ⟨_, hq.1, by rw [HGc.out], hq.2⟩) (by go_simp) ?_
        rintro v u6 ⟨rfl, hb⟩
        refine ⟨hHeld.trans (hb.mono hHeld.size), ?_⟩
        try simp only [Act.put, List.setIfInBounds_toArray, List.set_cons_zero, List.set_cons_succ]
        have hHeldN : Below wn.heap.size wn u6 := hHeld.trans (hb.mono hHeld.size)
        clear hHeld hb
        have hHeld := hHeldN
        clear hHeldN
        refine zMake (j := 61) (d := (some 133)) (R := fun v w' => v = .bool gc ∧ Below u6.heap.size u6 w') rfl rfl (by kernel_rfl) (by rfl) ((refCheck_any _ N z _ _ _ _ _ _ _ _ _ _ _ _ (RB.out.stays hHeld) (ZB.out.stays hHeld) (BL.out.stays hHeld) hz2 (by omega) hn3 HFB.out).mono fun e q hq => ⟨_, hq.1, by rw [HGc.out], hq.2⟩) (by go_simp) ?_
        rintro v u7 ⟨rfl, hb⟩
        refine ⟨hHeld.trans (hb.mono hHeld.size), ?_⟩
        try simp only [Act.put, List.setIfInBounds_toArray, List.set_cons_zero, List.set_cons_succ]
        have hHeldN : Below wn.heap.size wn u7 := hHeld.trans (hb.mono hHeld.size)
        clear hHeld hb
        have hHeld := hHeldN
        clear hHeldN
        refine zVal (i := 62) (d := (some 134)) (v := ?_) rfl rfl (by kernel_rfl) (by kernel_rfl) (by kernel_rfl) (by kernel_rfl) hPQ (by rfl) (fun wq hSw => ?_) hHeld ?_
        rotate_left 1
        · have z0 := cell_stays hSw HCz.out; have z1 := cell_stays hSw HCq.out; go_simp; try with_reducible rfl
        try simp only [Act.put, List.setIfInBounds_toArray, List.set_cons_zero, List.set_cons_succ]
        refine zVal (i := 63) (d := (some 135)) (v := ?_) rfl rfl (by kernel_rfl) (by kernel_rfl) (by kernel_rfl) (by kernel_rfl) hPQ (by rfl) (fun wq hSw => ?_) hHeld ?_
        rotate_left 1
        · have z0 := cell_stays hSw HCz.out; have z1 := cell_stays hSw HCq.out; go_simp; try with_reducible rfl
        try simp only [Act.put, List.setIfInBounds_toArray, List.set_cons_zero, List.set_cons_succ]
        refine zVal (i := 64) (d := (some 136)) (v := ?_) rfl rfl (by kernel_rfl) (by kernel_rfl) (by kernel_rfl) (by kernel_rfl) hPQ (by rfl) (fun wq hSw => ?_) hHeld ?_
        rotate_left 1
        · have z0 := cell_stays hSw HCz.out; have z1 := cell_stays hSw HCq.out; go_simp; try with_reducible rfl
        try simp only [Act.put, List.setIfInBounds_toArray, List.set_cons_zero, List.set_cons_succ]
        as_aux_lemma =>
          refine zVal (i := 65) (d := (some 137)) (v := ?_) rfl rfl (by kernel_rfl) (by kernel_rfl) (by kernel_rfl) (by kernel_rfl) hPQ (by rfl) (fun wq hSw => ?_) hHeld ?_
          rotate_left 1
          · have z0 := cell_stays hSw HCz.out; have z1 := cell_stays hSw HCq.out; go_simp; try with_reducible rfl
          try simp only [Act.put, List.setIfInBounds_toArray, List.set_cons_zero, List.set_cons_succ]
          refine zVal (i := 66) (d := (some 138)) (v := ?_) rfl rfl (by kernel_rfl) (by kernel_rfl) (by kernel_rfl) (by kernel_rfl) hPQ (by rfl) (fun wq hSw => ?_) hHeld ?_
          rotate_left 1
          · have z0 := cell_stays hSw HCz.out; have z1 := cell_stays hSw HCq.out; go_simp; try with_reducible rfl
          try simp only [Act.put, List.setIfInBounds_toArray, List.set_cons_zero, List.set_cons_succ]
          refine zVal (i := 67) (d := (some 139)) (v := ?_) rfl rfl (by kernel_rfl) (by kernel_rfl) (by kernel_rfl) (by kernel_rfl) hPQ (by rfl) (fun wq hSw => ?_) hHeld ?_
          rotate_left 1
          · have z0 := cell_stays hSw HCz.out; have z1 := cell_stays hSw HCq.out; go_simp; try with_reducible rfl
          try simp only [Act.put, List.setIfInBounds_toArray, List.set_cons_zero, List.set_cons_succ]
          refine zVal (i := 68) (d := (some 140)) (v := ?_) rfl rfl (by kernel_rfl) (by kernel_rfl) (by kernel_rfl) (by kernel_rfl) hPQ (by rfl) (fun wq hSw => ?_) hHeld ?_
          rotate_left 1
          · have z0 := cell_stays hSw HCz.out; have z1 := cell_stays hSw HCq.out; go_simp; try with_reducible rfl
          try simp only [Act.put, List.setIfInBounds_toArray, List.set_cons_zero, List.set_cons_succ]
          refine zVal (i := 69) (d := (some 141)) (v := ?_) rfl rfl (by kernel_rfl) (by kernel_rfl) (by kernel_rfl) (by kernel_rfl) hPQ (by rfl) (fun wq hSw => ?_) hHeld ?_
          rotate_left 1
          · have z0 := cell_stays hSw HCz.out; have z1 := cell_stays hSw HCq.out; go_simp; try with_reducible rfl
          try simp only [Act.put, List.setIfInBounds_toArray, List.set_cons_zero, List.set_cons_succ]
          refine zVal (i := 70) (d := (some 142)) (v := ?_) rfl rfl (by kernel_rfl) (by kernel_rfl) (by kernel_rfl) (by kernel_rfl) hPQ (by rfl) (fun wq hSw => ?_) hHeld ?_
          rotate_left 1
          · have z0 := cell_stays hSw HCz.out; have z1 := cell_stays hSw HCq.out; go_simp; try with_reducible rfl
          try simp only [Act.put, List.setIfInBounds_toArray, List.set_cons_zero, List.set_cons_succ]
          refine zVal (i := 71) (d := (some 143)) (v := ?_) rfl rfl (by kernel_rfl) (by kernel_rfl) (by kernel_rfl) (by kernel_rfl) hPQ (by rfl) (fun wq hSw => ?_) hHeld ?_
          rotate_left 1
          · have z0 := cell_stays hSw HCz.out; have z1 := cell_stays hSw HCq.out; go_simp; try with_reducible rfl
          try simp only [Act.put, List.setIfInBounds_toArray, List.set_cons_zero, List.set_cons_succ]
          refine zVal (i := 72) (d := (some 144)) (v := ?_) rfl rfl (by kernel_rfl) (by kernel_rfl) (by kernel_rfl) (by kernel_rfl) hPQ (by rfl) (fun wq hSw => ?_) hHeld ?_
          rotate_left 1
          · have z0 := cell_stays hSw HCz.out; have z1 := cell_stays hSw HCq.out; go_simp; try with_reducible rfl
          try simp only [Act.put, List.setIfInBounds_toArray, List.set_cons_zero, List.set_cons_succ]
          refine zVal (i := 73) (d := (some 145)) (v := ?_) rfl rfl (by kernel_rfl) (by kernel_rfl) (by kernel_rfl) (by kernel_rfl) hPQ (by rfl) (fun wq hSw => ?_) hHeld ?_
          rotate_left 1
          · have z0 := cell_stays hSw HCz.out; have z1 := cell_stays hSw HCq.out; go_simp; try with_reducible rfl
          try simp only [Act.put, List.setIfInBounds_toArray, List.set_cons_zero, List.set_cons_succ]
          refine zMake (j := 74) (d := (some 146)) (R := fun v w' => v = .bool false ∧ Below u7.heap.size u7 w') rfl rfl (by kernel_rfl) (by rfl) ((check_any _ N z _ _ _ _ _ _ _ _ _ _ _ _ (RB.out.stays hHeld) (ZB.out.stays hHeld) (PL1.out.stays hHeld) hz2 (by omega) hn3 HFP1.out).mono fun e q hq => ⟨_, hq.1, by rw [hShort.out], hq.2⟩) (by go_simp) ?_
          rintro v u8 ⟨rfl, hb⟩
          refine ⟨hHeld.trans (hb.mono hHeld.size), ?_⟩
          try simp only [Act.put, List.setIfInBounds_toArray, List.set_cons_zero, List.set_cons_succ]
          have hHeldN : Below wn.heap.size wn u8 := hHeld.trans (hb.mono hHeld.size)
          clear hHeld hb
          have hHeld := hHeldN
          clear hHeldN
          refine zVal (i := 75) (d := (some 147)) (v := ?_) rfl rfl (by kernel_rfl) (by kernel_rfl) (by kernel_rfl) (by kernel_rfl) hPQ (by rfl) (fun wq hSw => ?_) hHeld ?_
          rotate_left 1
          · have z0 := cell_stays hSw HCz.out; have z1 := cell_stays hSw HCq.out; go_simp; try with_reducible rfl
          try simp only [Act.put, List.setIfInBounds_toArray, List.set_cons_zero, List.set_cons_succ]
          refine zVal (i := 76) (d := (some 148)) (v := ?_) rfl rfl (by kernel_rfl) (by kernel_rfl) (by kernel_rfl) (by kernel_rfl) hPQ (by rfl) (fun wq hSw => ?_) hHeld ?_
          rotate_left 1
          · have z0 := cell_stays hSw HCz.out; have z1 := cell_stays hSw HCq.out; go_simp; try with_reducible rfl
          try simp only [Act.put, List.setIfInBounds_toArray, List.set_cons_zero, List.set_cons_succ]
          refine zVal (i := 77) (d := (some 149)) (v := ?_) rfl rfl (by kernel_rfl) (by kernel_rfl) (by kernel_rfl) (by kernel_rfl) hPQ (by rfl) (fun wq hSw => ?_) hHeld ?_
          rotate_left 1
          · have z0 := cell_stays hSw HCz.out; have z1 := cell_stays hSw HCq.out; go_simp; try with_reducible rfl
          try simp only [Act.put, List.setIfInBounds_toArray, List.set_cons_zero, List.set_cons_succ]
          as_aux_lemma =>
            refine zVal (i := 78) (d := (some 150)) (v := ?_) rfl rfl (by kernel_rfl) (by kernel_rfl) (by kernel_rfl) (by kernel_rfl) hPQ (by rfl) (fun wq hSw => ?_) hHeld ?_
            rotate_left 1
            · have z0 := cell_stays hSw HCz.out; have z1 := cell_stays hSw HCq.out; go_simp; try with_reducible rfl
            try simp only [Act.put, List.setIfInBounds_toArray, List.set_cons_zero, List.set_cons_succ]
            refine zVal (i := 79) (d := (some 151)) (v := ?_) rfl rfl (by kernel_rfl) (by kernel_rfl) (by kernel_rfl) (by kernel_rfl) hPQ (by rfl) (fun wq hSw => ?_) hHeld ?_
            rotate_left 1
            · have z0 := cell_stays hSw HCz.out; have z1 := cell_stays hSw HCq.out; go_simp; try with_reducible rfl
            try simp only [Act.put, List.setIfInBounds_toArray, List.set_cons_zero, List.set_cons_succ]
            refine zVal (i := 80) (d := (some 152)) (v := ?_) rfl rfl (by kernel_rfl) (by kernel_rfl) (by kernel_rfl) (by kernel_rfl) hPQ (by rfl) (fun wq hSw => ?_) hHeld ?_
            rotate_left 1
            · have z0 := cell_stays hSw HCz.out; have z1 := cell_stays hSw HCq.out; go_simp; try with_reducible rfl
            try simp only [Act.put, List.setIfInBounds_toArray, List.set_cons_zero, List.set_cons_succ]
            refine zVal (i := 81) (d := (some 153)) (v := ?_) rfl rfl (by kernel_rfl) (by kernel_rfl) (by kernel_rfl) (by kernel_rfl) hPQ (by rfl) (fun wq hSw => ?_) hHeld ?_
            rotate_left 1
            · have z0 := cell_stays hSw HCz.out; have z1 := cell_stays hSw HCq.out; go_simp; try with_reducible rfl
            try simp only [Act.put, List.setIfInBounds_toArray, List.set_cons_zero, List.set_cons_succ]
            refine zVal (i := 82) (d := (some 154)) (v := ?_) rfl rfl (by kernel_rfl) (by kernel_rfl) (by kernel_rfl) (by kernel_rfl) hPQ (by rfl) (fun wq hSw => ?_) hHeld ?_
            rotate_left 1
            · have z0 := cell_stays hSw HCz.out; have z1 := cell_stays hSw HCq.out; go_simp; try with_reducible rfl
            try simp only [Act.put, List.setIfInBounds_toArray, List.set_cons_zero, List.set_cons_succ]
            refine zVal (i := 83) (d := (some 155)) (v := ?_) rfl rfl (by kernel_rfl) (by kernel_rfl) (by kernel_rfl) (by kernel_rfl) hPQ (by rfl) (fun wq hSw => ?_) hHeld ?_
            rotate_left 1
            · have z0 := cell_stays hSw HCz.out; have z1 := cell_stays hSw HCq.out; go_simp; try with_reducible rfl
            try simp only [Act.put, List.setIfInBounds_toArray, List.set_cons_zero, List.set_cons_succ]
            refine zVal (i := 84) (d := (some 156)) (v := ?_) rfl rfl (by kernel_rfl) (by kernel_rfl) (by kernel_rfl) (by kernel_rfl) hPQ (by rfl) (fun wq hSw => ?_) hHeld ?_
            rotate_left 1
            · have z0 := cell_stays hSw HCz.out; have z1 := cell_stays hSw HCq.out; go_simp; try with_reducible rfl
            try simp only [Act.put, List.setIfInBounds_toArray, List.set_cons_zero, List.set_cons_succ]
            refine zVal (i := 86) (d := (some 158)) (v := ?_) rfl rfl (by kernel_rfl) (by kernel_rfl) (by kernel_rfl) (by kernel_rfl) hPQ (by rfl) (fun wq hSw => ?_) hHeld ?_
            rotate_left 1
            · have z0 := cell_stays hSw HCz.out; have z1 := cell_stays hSw HCq.out; go_simp; try with_reducible rfl
            try simp only [Act.put, List.setIfInBounds_toArray, List.set_cons_zero, List.set_cons_succ]
            refine zVal (i := 88) (d := (some 160)) (v := ?_) rfl rfl (by kernel_rfl) (by kernel_rfl) (by kernel_rfl) (by kernel_rfl) hPQ (by rfl) (fun wq hSw => ?_) hHeld ?_
            rotate_left 1
            · have z0 := cell_stays hSw HCz.out; have z1 := cell_stays hSw HCq.out; go_simp; try with_reducible rfl
            try simp only [Act.put, List.setIfInBounds_toArray, List.set_cons_zero, List.set_cons_succ]
            as_aux_lemma =>
              refine zAll (rs := [85, 89]) (by kernel_rfl) (by decide) (fun k hk => ?_)
              rcases zTwo hk with rfl | rfl
              ·
                refine zOpNew (j := 85) (d := (some 157)) (T := 22) (z := #[]) (val := fun g => .slice (some ⟨g, 0, none⟩) 0 0) rfl rfl (by rfl) ?rz2 (fun gE v1 gE_ge gE_lt BE hbn => ⟨.inr (hHeld.trans (hbn.mono hHeld.size)), ?tz2⟩)
                case rz2 => go_simp; try with_reducible rfl
                case tz2 =>
                  try simp only [Act.put, List.setIfInBounds_toArray, List.set_cons_zero, List.set_cons_succ]
                  have hHeldN : Below wn.heap.size wn v1 := hHeld.trans (hbn.mono hHeld.size)
                  have gE_n : wn.heap.size ≤ gE := Nat.le_trans hHeld.size gE_ge
                  clear hHeld
                  have hHeld := hHeldN
                  clear hHeldN
                  refine zAll (rs := [87, 89]) (by kernel_rfl) (by decide) (fun k hk => ?_)
                  rcases zTwo hk with rfl | rfl
                  ·
                    refine zOpApp (j := 87) (d := (some 159)) (R := fun v w' => ∃ A' c', v = .slice A' m c' ∧ w'.ownsRow wn.heap.size 22 1 (.slice A' m c') m vs ∧ World.grownBy v1 w' (some gE) ∧ Below wn.heap.size v1 w') rfl rfl (by rfl) rfl (by rfl) (by rfl) (app_own_z _ BE gE_n (PR.out.stays hHeld) HSL.out (by omega) hHeld.size) (fun v v2 hRv => ?tz3)
                    case tz3 =>
                      obtain ⟨A11, c11, rfl, hown11, hg11, hb11⟩ := hRv
                      refine ⟨.inr (hHeld.trans hb11), ?_⟩
                      try simp only [Act.put, List.setIfInBounds_toArray, List.set_cons_zero, List.set_cons_succ]
                      have hHeldN : Below wn.heap.size wn v2 := hHeld.trans hb11
                      clear hHeld
                      have hHeld := hHeldN
                      clear hHeldN
                      have HO11 : OwnItems 1 encB id 22 v2 wn.heap.size A11 m c11 P := ⟨vs, hown11, (PI.out.rebase (fun k hk => (hown11.lt k hk).1)).stays hHeld⟩
                      refine zAlone (j := 89) (by kernel_rfl) ?_
                      have HO11x := HO11
                      clear HO11
                      refine zOpNew (j := 89) (d := (some 161)) (T := 22) (z := #[.slice A1 32 c1]) (val := fun g => .slice (some ⟨g, 0, none⟩) 1 1) rfl rfl (by rfl) ?rz4 (fun gR v3 gR_ge gR_lt BR hbn => ⟨.inr (hHeld.trans (hbn.mono hHeld.size)), ?tz4⟩)
                      case rz4 => go_simp; try with_reducible rfl
                      case tz4 =>
                        try simp only [Act.put, List.setIfInBounds_toArray, List.set_cons_zero, List.set_cons_succ]
                        have hHeldN : Below wn.heap.size wn v3 := hHeld.trans (hbn.mono hHeld.size)
                        have gR_n : wn.heap.size ≤ gR := Nat.le_trans hHeld.size gR_ge
                        clear hHeld
                        have hHeld := hHeldN
                        clear hHeldN
                        have HO11 := HO11x.stays hbn
                        clear hbn HO11x
                        have hrr : Rd v3 1 (some ⟨gR, 0, none⟩) 1 1 [.slice A1 32 c1] := blk_rd BR rfl rfl (Nat.le_refl _) (by decide)
                        as_aux_lemma =>
                          refine zAlone (j := 90) (by kernel_rfl) ?_
                          refine zOpApp (j := 90) (d := (some 162)) (R := fun v w' => ∃ A' c', v = .slice A' (m + 1) c' ∧ OwnItems 1 encB id 22 w' wn.heap.size A' (m + 1) c' (P ++ [rt]) ∧ Below wn.heap.size v3 w') rfl rfl (by rfl) rfl (by rfl) (by rfl) (app_items_z _ HO11 hrr (RB.out.stays hHeld) hRBlt (by omega) hHeld.size) (fun v v9 hRv => ?tz5)
                          case tz5 =>
                            obtain ⟨A12, c12, rfl, hown12, hb12⟩ := hRv
                            refine ⟨.inr (hHeld.trans hb12), ?_⟩
                            try simp only [Act.put, List.setIfInBounds_toArray, List.set_cons_zero, List.set_cons_succ]
                            have hHeldN : Below wn.heap.size wn v9 := hHeld.trans hb12
                            clear hHeld
                            have hHeld := hHeldN
                            clear hHeldN HO11 hrr BE BR
                            refine zMake (j := 91) (d := (some 163)) (R := fun v w' => v = .bool false ∧ Below v9.heap.size v9 w') rfl rfl (by kernel_rfl) (by rfl) ((check_any _ N z _ _ _ _ _ _ _ _ _ _ _ _ (RB.out.stays hHeld) (ZB.out.stays hHeld) hown12.lists hz2 (by omega) hn3 (few_app HFP.out hrt)).mono fun e q hq => ⟨_, hq.1, by rw [hLong.out], hq.2⟩) (by go_simp) ?_
                            rintro v u9 ⟨rfl, hb⟩
                            refine ⟨hHeld.trans (hb.mono hHeld.size), ?_⟩
                            try simp only [Act.put, List.setIfInBounds_toArray, List.set_cons_zero, List.set_cons_succ]
                            have hHeldN : Below wn.heap.size wn u9 := hHeld.trans (hb.mono hHeld.size)
                            clear hHeld hb
                            have hHeld := hHeldN
                            clear hHeldN
                            refine zVal (i := 92) (d := (some 164)) (v := ?_) rfl rfl (by kernel_rfl) (by kernel_rfl) (by kernel_rfl) (by kernel_rfl) hPQ (by rfl) (fun wq hSw => ?_) hHeld ?_
                            rotate_left 1
                            · have z0 := cell_stays hSw HCz.out; have z1 := cell_stays hSw HCq.out; go_simp; try with_reducible rfl
                            try simp only [Act.put, List.setIfInBounds_toArray, List.set_cons_zero, List.set_cons_succ]
                            refine zVal (i := 93) (d := (some 165)) (v := ?_) rfl rfl (by kernel_rfl) (by kernel_rfl) (by kernel_rfl) (by kernel_rfl) hPQ (by rfl) (fun wq hSw => ?_) hHeld ?_
                            rotate_left 1
                            · have z0 := cell_stays hSw HCz.out; have z1 := cell_stays hSw HCq.out; go_simp; try with_reducible rfl
                            try simp only [Act.put, List.setIfInBounds_toArray, List.set_cons_zero, List.set_cons_succ]
                            refine zVal (i := 94) (d := (some 166)) (v := ?_) rfl rfl (by kernel_rfl) (by kernel_rfl) (by kernel_rfl) (by kernel_rfl) hPQ (by rfl) (fun wq hSw => ?_) hHeld ?_
                            rotate_left 1
                            · have z0 := cell_stays hSw HCz.out; have z1 := cell_stays hSw HCq.out; go_simp; try with_reducible rfl
                            try simp only [Act.put, List.setIfInBounds_toArray, List.set_cons_zero, List.set_cons_succ]
                            as_aux_lemma =>
                              refine zVal (i := 95) (d := (some 167)) (v := ?_) rfl rfl (by kernel_rfl) (by kernel_rfl) (by kernel_rfl) (by kernel_rfl) hPQ (by rfl) (fun wq hSw => ?_) hHeld ?_
                              rotate_left 1
                              · have z0 := cell_stays hSw HCz.out; have z1 := cell_stays hSw HCq.out; go_simp; try with_reducible rfl
                              try simp only [Act.put, List.setIfInBounds_toArray, List.set_cons_zero, List.set_cons_succ]
                              refine zVal (i := 96) (d := (some 168)) (v := ?_) rfl rfl (by kernel_rfl) (by kernel_rfl) (by kernel_rfl) (by kernel_rfl) hPQ (by rfl) (fun wq hSw => ?_) hHeld ?_
                              rotate_left 1
                              · have z0 := cell_stays hSw HCz.out; have z1 := cell_stays hSw HCq.out; go_simp; try with_reducible rfl
                              try simp only [Act.put, List.setIfInBounds_toArray, List.set_cons_zero, List.set_cons_succ]
                              refine zVal (i := 97) (d := (some 169)) (v := ?_) rfl rfl (by kernel_rfl) (by kernel_rfl) (by kernel_rfl) (by kernel_rfl) hPQ (by rfl) (fun wq hSw => ?_) hHeld ?_
                              rotate_left 1
                              · have z0 := cell_stays hSw HCz.out; have z1 := cell_stays hSw HCq.out; go_simp; try with_reducible rfl
                              try simp only [Act.put, List.setIfInBounds_toArray, List.set_cons_zero, List.set_cons_succ]
                              refine zVal (i := 98) (d := (some 170)) (v := ?_) rfl rfl (by kernel_rfl) (by kernel_rfl) (by kernel_rfl) (by kernel_rfl) hPQ (by rfl) (fun wq hSw => ?_) hHeld ?_
                              rotate_left 1
                              · have z0 := cell_stays hSw HCz.out; have z1 := cell_stays hSw HCq.out; go_simp; try with_reducible rfl
                              try simp only [Act.put, List.setIfInBounds_toArray, List.set_cons_zero, List.set_cons_succ]
                              refine zVal (i := 99) (d := (some 171)) (v := ?_) rfl rfl (by kernel_rfl) (by kernel_rfl) (by kernel_rfl) (by kernel_rfl) hPQ (by rfl) (fun wq hSw => ?_) hHeld ?_
                              rotate_left 1
                              · have z0 := cell_stays hSw HCz.out; have z1 := cell_stays hSw HCq.out; go_simp; try with_reducible rfl
                              try simp only [Act.put, List.setIfInBounds_toArray, List.set_cons_zero, List.set_cons_succ]
                              refine zVal (i := 100) (d := (some 172)) (v := ?_) rfl rfl (by kernel_rfl) (by kernel_rfl) (by kernel_rfl) (by kernel_rfl) hPQ (by rfl) (fun wq hSw => ?_) hHeld ?_
                              rotate_left 1
                              · have z0 := cell_stays hSw HCz.out; have z1 := cell_stays hSw HCq.out; go_simp; try with_reducible rfl
                              try simp only [Act.put, List.setIfInBounds_toArray, List.set_cons_zero, List.set_cons_succ]
                              refine zVal (i := 101) (d := (some 173)) (v := ?_) rfl rfl (by kernel_rfl) (by kernel_rfl) (by kernel_rfl) (by kernel_rfl) hPQ (by rfl) (fun wq hSw => ?_) hHeld ?_
                              rotate_left 1
                              · have z0 := cell_stays hSw HCz.out; have z1 := cell_stays hSw HCq.out; go_simp; try with_reducible rfl
                              try simp only [Act.put, List.setIfInBounds_toArray, List.set_cons_zero, List.set_cons_succ]
                              refine zVal (i := 102) (d := (some 174)) (v := ?_) rfl rfl (by kernel_rfl) (by kernel_rfl) (by kernel_rfl) (by kernel_rfl) hPQ (by rfl) (fun wq hSw => ?_) hHeld ?_
                              rotate_left 1
                              · have z0 := cell_stays hSw HCz.out; have z1 := cell_stays hSw HCq.out; go_simp; try with_reducible rfl
                              try simp only [Act.put, List.setIfInBounds_toArray, List.set_cons_zero, List.set_cons_succ]
                              refine zMake (j := 103) (d := (some 175)) (R := fun v w' => v = .bool true ∧ Below u9.heap.size u9 w') rfl rfl (by kernel_rfl) (by rfl) ((check_any _ N z _ _ _ _ _ _ _ _ _ _ _ _ (RB.out.stays hHeld) (ZB.out.stays hHeld) (PL.out.stays hHeld) hz2 (by omega) hn3 HFP.out).mono fun e q hq => ⟨_, hq.1, by rw [HCK.out], hq.2⟩) (by go_simp) ?_
                              rintro v u10 ⟨rfl, hb⟩
                              refine ⟨hHeld.trans (hb.mono hHeld.size), ?_⟩
                              try simp only [Act.put, List.setIfInBounds_toArray, List.set_cons_zero, List.set_cons_succ]
                              have hHeldN : Below wn.heap.size wn u10 := hHeld.trans (hb.mono hHeld.size)
                              clear hHeld hb
                              have hHeld := hHeldN
                              clear hHeldN
                              refine zVal (i := 104) (d := (some 176)) (v := ?_) rfl rfl (by kernel_rfl) (by kernel_rfl) (by kernel_rfl) (by kernel_rfl) hPQ (by rfl) (fun wq hSw => ?_) hHeld ?_
                              rotate_left 1
                              · have z0 := cell_stays hSw HCz.out; have z1 := cell_stays hSw HCq.out; go_simp; try with_reducible rfl
                              try simp only [Act.put, List.setIfInBounds_toArray, List.set_cons_zero, List.set_cons_succ]
                              refine zVal (i := 105) (d := (some 12)) (v := ?_) rfl rfl (by kernel_rfl) (by kernel_rfl) (by kernel_rfl) (by kernel_rfl) hPQ (by rfl) (fun wq hSw => ?_) hHeld ?_
                              rotate_left 1
                              · have z0 := cell_stays hSw HCz.out; have z1 := cell_stays hSw HCq.out; go_simp; try with_reducible rfl
                              try simp only [Act.put, List.setIfInBounds_toArray, List.set_cons_zero, List.set_cons_succ]
                              refine zDone (by kernel_rfl) ?_ _
                              go_wp2
                              go_ret
                              exact ⟨rfl, RN.out.trans (hHeld.mono hsn)⟩
                  ·
                    refine zOpNew (j := 89) (d := (some 161)) (T := 22) (z := #[.slice A1 32 c1]) (val := fun g => .slice (some ⟨g, 0, none⟩) 1 1) rfl rfl (by rfl) ?rz6 (fun gR v2 gR_ge gR_lt BR hbn => ⟨.inr (hHeld.trans (hbn.mono hHeld.size)), ?tz6⟩)
                    case rz6 => go_simp; try with_reducible rfl
                    case tz6 =>
                      try simp only [Act.put, List.setIfInBounds_toArray, List.set_cons_zero, List.set_cons_succ]
                      have hHeldN : Below wn.heap.size wn v2 := hHeld.trans (hbn.mono hHeld.size)
                      have gR_n : wn.heap.size ≤ gR := Nat.le_trans hHeld.size gR_ge
                      clear hHeld
                      have hHeld := hHeldN
                      clear hHeldN
                      have BE := BE.stays hbn
                      have hne : gE ≠ gR := by omega
                      clear hbn
                      refine zAlone (j := 87) (by kernel_rfl) ?_
                      refine zOpApp (j := 87) (d := (some 159)) (R := fun v w' => ∃ A' c', v = .slice A' m c' ∧ w'.ownsRow wn.heap.size 22 1 (.slice A' m c') m vs ∧ World.grownBy v2 w' (some gE) ∧ Below wn.heap.size v2 w') rfl rfl (by rfl) rfl (by rfl) (by rfl) (app_own_z _ BE gE_n (PR.out.stays hHeld) HSL.out (by omega) hHeld.size) (fun v v3 hRv => ?tz7)
                      case tz7 =>
                        obtain ⟨A11, c11, rfl, hown11, hg11, hb11⟩ := hRv
                        refine ⟨.inr (hHeld.trans hb11), ?_⟩
                        try simp only [Act.put, List.setIfInBounds_toArray, List.set_cons_zero, List.set_cons_succ]
                        have hHeldN : Below wn.heap.size wn v3 := hHeld.trans hb11
                        clear hHeld
                        have hHeld := hHeldN
                        clear hHeldN
                        have HO11 : OwnItems 1 encB id 22 v3 wn.heap.size A11 m c11 P := ⟨vs, hown11, (PI.out.rebase (fun k hk => (hown11.lt k hk).1)).stays hHeld⟩
                        have hrr : Rd v3 1 (some ⟨gR, 0, none⟩) 1 1 [.slice A1 32 c1] := rd_far BR hg11 (fun e => by injection e with e; omega)
                        as_aux_lemma =>
                          refine zAlone (j := 90) (by kernel_rfl) ?_
                          refine zOpApp (j := 90) (d := (some 162)) (R := fun v w' => ∃ A' c', v = .slice A' (m + 1) c' ∧ OwnItems 1 encB id 22 w' wn.heap.size A' (m + 1) c' (P ++ [rt]) ∧ Below wn.heap.size v3 w') rfl rfl (by rfl) rfl (by rfl) (by rfl) (app_items_z _ HO11 hrr (RB.out.stays hHeld) hRBlt (by omega) hHeld.size) (fun v v9 hRv => ?tz8)
                          case tz8 =>
                            obtain ⟨A12, c12, rfl, hown12, hb12⟩ := hRv
                            refine ⟨.inr (hHeld.trans hb12), ?_⟩
                            try simp only [Act.put, List.setIfInBounds_toArray, List.set_cons_zero, List.set_cons_succ]
                            have hHeldN : Below wn.heap.size wn v9 := hHeld.trans hb12
                            clear hHeld
                            have hHeld := hHeldN
                            clear hHeldN HO11 hrr BE BR
                            refine zMake (j := 91) (d := (some 163)) (R := fun v w' => v = .bool false ∧ Below v9.heap.size v9 w') rfl rfl (by kernel_rfl) (by rfl) ((check_any _ N z _ _ _ _ _ _ _ _ _ _ _ _ (RB.out.stays hHeld) (ZB.out.stays hHeld) hown12.lists hz2 (by omega) hn3 (few_app HFP.out hrt)).mono fun e q hq => ⟨_, hq.1, by rw [hLong.out], hq.2⟩) (by go_simp) ?_
                            rintro v u9 ⟨rfl, hb⟩
                            refine ⟨hHeld.trans (hb.mono hHeld.size), ?_⟩
                            try simp only [Act.put, List.setIfInBounds_toArray, List.set_cons_zero, List.set_cons_succ]
                            have hHeldN : Below wn.heap.size wn u9 := hHeld.trans (hb.mono hHeld.size)
                            clear hHeld hb
                            have hHeld := hHeldN
                            clear hHeldN
                            refine zVal (i := 92) (d := (some 164)) (v := ?_) rfl rfl (by kernel_rfl) (by kernel_rfl) (by kernel_rfl) (by kernel_rfl) hPQ (by rfl) (fun wq hSw => ?_) hHeld ?_
                            rotate_left 1
                            · have z0 := cell_stays hSw HCz.out; have z1 := cell_stays hSw HCq.out; go_simp; try with_reducible rfl
                            try simp only [Act.put, List.setIfInBounds_toArray, List.set_cons_zero, List.set_cons_succ]
                            refine zVal (i := 93) (d := (some 165)) (v := ?_) rfl rfl (by kernel_rfl) (by kernel_rfl) (by kernel_rfl) (by kernel_rfl) hPQ (by rfl) (fun wq hSw => ?_) hHeld ?_
                            rotate_left 1
                            · have z0 := cell_stays hSw HCz.out; have z1 := cell_stays hSw HCq.out; go_simp; try with_reducible rfl
                            try simp only [Act.put, List.setIfInBounds_toArray, List.set_cons_zero, List.set_cons_succ]
                            refine zVal (i := 94) (d := (some 166)) (v := ?_) rfl rfl (by kernel_rfl) (by kernel_rfl) (by kernel_rfl) (by kernel_rfl) hPQ (by rfl) (fun wq hSw => ?_) hHeld ?_
                            rotate_left 1
                            · have z0 := cell_stays hSw HCz.out; have z1 := cell_stays hSw HCq.out; go_simp; try with_reducible rfl
                            try simp only [Act.put, List.setIfInBounds_toArray, List.set_cons_zero, List.set_cons_succ]
                            as_aux_lemma =>
                              refine zVal (i := 95) (d := (some 167)) (v := ?_) rfl rfl (by kernel_rfl) (by kernel_rfl) (by kernel_rfl) (by kernel_rfl) hPQ (by rfl) (fun wq hSw => ?_) hHeld ?_
                              rotate_left 1
                              · have z0 := cell_stays hSw HCz.out; have z1 := cell_stays hSw HCq.out; go_simp; try with_reducible rfl
                              try simp only [Act.put, List.setIfInBounds_toArray, List.set_cons_zero, List.set_cons_succ]
                              refine zVal (i := 96) (d := (some 168)) (v := ?_) rfl rfl (by kernel_rfl) (by kernel_rfl) (by kernel_rfl) (by kernel_rfl) hPQ (by rfl) (fun wq hSw => ?_) hHeld ?_
                              rotate_left 1
                              · have z0 := cell_stays hSw HCz.out; have z1 := cell_stays hSw HCq.out; go_simp; try with_reducible rfl
                              try simp only [Act.put, List.setIfInBounds_toArray, List.set_cons_zero, List.set_cons_succ]
                              refine zVal (i := 97) (d := (some 169)) (v := ?_) rfl rfl (by kernel_rfl) (by kernel_rfl) (by kernel_rfl) (by kernel_rfl) hPQ (by rfl) (fun wq hSw => ?_) hHeld ?_
                              rotate_left 1
                              · have z0 := cell_stays hSw HCz.out; have z1 := cell_stays hSw HCq.out; go_simp; try with_reducible rfl
                              try simp only [Act.put, List.setIfInBounds_toArray, List.set_cons_zero, List.set_cons_succ]
                              refine zVal (i := 98) (d := (some 170)) (v := ?_) rfl rfl (by kernel_rfl) (by kernel_rfl) (by kernel_rfl) (by kernel_rfl) hPQ (by rfl) (fun wq hSw => ?_) hHeld ?_
                              rotate_left 1
                              · have z0 := cell_stays hSw HCz.out; have z1 := cell_stays hSw HCq.out; go_simp; try with_reducible rfl
                              try simp only [Act.put, List.setIfInBounds_toArray, List.set_cons_zero, List.set_cons_succ]
                              refine zVal (i := 99) (d := (some 171)) (v := ?_) rfl rfl (by kernel_rfl) (by kernel_rfl) (by kernel_rfl) (by kernel_rfl) hPQ (by rfl) (fun wq hSw => ?_) hHeld ?_
                              rotate_left 1
                              · have z0 := cell_stays hSw HCz.out; have z1 := cell_stays hSw HCq.out; go_simp; try with_reducible rfl
                              try simp only [Act.put, List.setIfInBounds_toArray, List.set_cons_zero, List.set_cons_succ]
                              refine zVal (i := 100) (d := (some 172)) (v := ?_) rfl rfl (by kernel_rfl) (by kernel_rfl) (by kernel_rfl) (by kernel_rfl) hPQ (by rfl) (fun wq hSw => ?_) hHeld ?_
                              rotate_left 1
                              · have z0 := cell_stays hSw HCz.out; have z1 := cell_stays hSw HCq.out; go_simp; try with_reducible rfl
                              try simp only [Act.put, List.setIfInBounds_toArray, List.set_cons_zero, List.set_cons_succ]
                              refine zVal (i := 101) (d := (some 173)) (v := ?_) rfl rfl (by kernel_rfl) (by kernel_rfl) (by kernel_rfl) (by kernel_rfl) hPQ (by rfl) (fun wq hSw => ?_) hHeld ?_
                              rotate_left 1
                              · have z0 := cell_stays hSw HCz.out; have z1 := cell_stays hSw HCq.out; go_simp; try with_reducible rfl
                              try simp only [Act.put, List.setIfInBounds_toArray, List.set_cons_zero, List.set_cons_succ]
                              refine zVal (i := 102) (d := (some 174)) (v := ?_) rfl rfl (by kernel_rfl) (by kernel_rfl) (by kernel_rfl) (by kernel_rfl) hPQ (by rfl) (fun wq hSw => ?_) hHeld ?_
                              rotate_left 1
                              · have z0 := cell_stays hSw HCz.out; have z1 := cell_stays hSw HCq.out; go_simp; try with_reducible rfl
                              try simp only [Act.put, List.setIfInBounds_toArray, List.set_cons_zero, List.set_cons_succ]
                              refine zMake (j := 103) (d := (some 175)) (R := fun v w' => v = .bool true ∧ Below u9.heap.size u9 w') rfl rfl (by kernel_rfl) (by rfl) ((check_any _ N z _ _ _ _ _ _ _ _ _ _ _ _ (RB.out.stays hHeld) (ZB.out.stays hHeld) (PL.out.stays hHeld) hz2 (by omega) hn3 HFP.out).mono fun e q hq => ⟨_, hq.1, by rw [HCK.out], hq.2⟩) (by go_simp) ?_
                              rintro v u10 ⟨rfl, hb⟩
                              refine ⟨hHeld.trans (hb.mono hHeld.size), ?_⟩
                              try simp only [Act.put, List.setIfInBounds_toArray, List.set_cons_zero, List.set_cons_succ]
                              have hHeldN : Below wn.heap.size wn u10 := hHeld.trans (hb.mono hHeld.size)
                              clear hHeld hb
                              have hHeld := hHeldN
                              clear hHeldN
                              refine zVal (i := 104) (d := (some 176)) (v := ?_) rfl rfl (by kernel_rfl) (by kernel_rfl) (by kernel_rfl) (by kernel_rfl) hPQ (by rfl) (fun wq hSw => ?_) hHeld ?_
                              rotate_left 1
                              · have z0 := cell_stays hSw HCz.out; have z1 := cell_stays hSw HCq.out; go_simp; try with_reducible rfl
                              try simp only [Act.put, List.setIfInBounds_toArray, List.set_cons_zero, List.set_cons_succ]
                              refine zVal (i := 105) (d := (some 12)) (v := ?_) rfl rfl (by kernel_rfl) (by kernel_rfl) (by kernel_rfl) (by kernel_rfl) hPQ (by rfl) (fun wq hSw => ?_) hHeld ?_
                              rotate_left 1
                              · have z0 := cell_stays hSw HCz.out; have z1 := cell_stays hSw HCq.out; go_simp; try with_reducible rfl
                              try simp only [Act.put, List.setIfInBounds_toArray, List.set_cons_zero, List.set_cons_succ]
                              refine zDone (by kernel_rfl) ?_ _
                              go_wp2
                              go_ret
                              exact ⟨rfl, RN.out.trans (hHeld.mono hsn)⟩
              ·
                refine zOpNew (j := 89) (d := (some 161)) (T := 22) (z := #[.slice A1 32 c1]) (val := fun g => .slice (some ⟨g, 0, none⟩) 1 1) rfl rfl (by rfl) ?rz9 (fun gR v1 gR_ge gR_lt BR hbn => ⟨.inr (hHeld.trans (hbn.mono hHeld.size)), ?tz9⟩)
                case rz9 => go_simp; try with_reducible rfl
                case tz9 =>
                  try simp only [Act.put, List.setIfInBounds_toArray, List.set_cons_zero, List.set_cons_succ]
                  have hHeldN : Below wn.heap.size wn v1 := hHeld.trans (hbn.mono hHeld.size)
                  have gR_n : wn.heap.size ≤ gR := Nat.le_trans hHeld.size gR_ge
                  clear hHeld
                  have hHeld := hHeldN
                  clear hHeldN
                  clear hbn
                  refine zAlone (j := 85) (by kernel_rfl) ?_
                  refine zOpNew (j := 85) (d := (some 157)) (T := 22) (z := #[]) (val := fun g => .slice (some ⟨g, 0, none⟩) 0 0) rfl rfl (by rfl) ?rz10 (fun gE v2 gE_ge gE_lt BE hbn => ⟨.inr (hHeld.trans (hbn.mono hHeld.size)), ?tz10⟩)
                  case rz10 => go_simp; try with_reducible rfl
                  case tz10 =>
                    try simp only [Act.put, List.setIfInBounds_toArray, List.set_cons_zero, List.set_cons_succ]
                    have hHeldN : Below wn.heap.size wn v2 := hHeld.trans (hbn.mono hHeld.size)
                    have gE_n : wn.heap.size ≤ gE := Nat.le_trans hHeld.size gE_ge
                    clear hHeld
                    have hHeld := hHeldN
                    clear hHeldN
                    have BR := BR.stays hbn
                    have hne : gE ≠ gR := by omega
                    clear hbn
                    refine zAlone (j := 87) (by kernel_rfl) ?_
                    refine zOpApp (j := 87) (d := (some 159)) (R := fun v w' => ∃ A' c', v = .slice A' m c' ∧ w'.ownsRow wn.heap.size 22 1 (.slice A' m c') m vs ∧ World.grownBy v2 w' (some gE) ∧ Below wn.heap.size v2 w') rfl rfl (by rfl) rfl (by rfl) (by rfl) (app_own_z _ BE gE_n (PR.out.stays hHeld) HSL.out (by omega) hHeld.size) (fun v v3 hRv => ?tz11)
                    case tz11 =>
                      obtain ⟨A11, c11, rfl, hown11, hg11, hb11⟩ := hRv
                      refine ⟨.inr (hHeld.trans hb11), ?_⟩
                      try simp only [Act.put, List.setIfInBounds_toArray, List.set_cons_zero, List.set_cons_succ]
                      have hHeldN : Below wn.heap.size wn v3 := hHeld.trans hb11
                      clear hHeld
                      have hHeld := hHeldN
                      clear hHeldN
                      have HO11 : OwnItems 1 encB id 22 v3 wn.heap.size A11 m c11 P := ⟨vs, hown11, (PI.out.rebase (fun k hk => (hown11.lt k hk).1)).stays hHeld⟩
                      have hrr : Rd v3 1 (some ⟨gR, 0, none⟩) 1 1 [.slice A1 32 c1] := rd_far BR hg11 (fun e => by injection e with e; omega)
                      as_aux_lemma =>
                        refine zAlone (j := 90) (by kernel_rfl) ?_
                        refine zOpApp (j := 90) (d := (some 162)) (R := fun v w' => ∃ A' c', v = .slice A' (m + 1) c' ∧ OwnItems 1 encB id 22 w' wn.heap.size A' (m + 1) c' (P ++ [rt]) ∧ Below wn.heap.size v3 w') rfl rfl (by rfl) rfl (by rfl) (by rfl) (app_items_z _ HO11 hrr (RB.out.stays hHeld) hRBlt (by omega) hHeld.size) (fun v v9 hRv => ?tz12)
                        case tz12 =>
                          obtain ⟨A12, c12, rfl, hown12, hb12⟩ := hRv
                          refine ⟨.inr (hHeld.trans hb12), ?_⟩
                          try simp only [Act.put, List.setIfInBounds_toArray, List.set_cons_zero, List.set_cons_succ]
                          have hHeldN : Below wn.heap.size wn v9 := hHeld.trans hb12
                          clear hHeld
                          have hHeld := hHeldN
                          clear hHeldN HO11 hrr BE BR
                          refine zMake (j := 91) (d := (some 163)) (R := fun v w' => v = .bool false ∧ Below v9.heap.size v9 w') rfl rfl (by kernel_rfl) (by rfl) ((check_any _ N z _ _ _ _ _ _ _ _ _ _ _ _ (RB.out.stays hHeld) (ZB.out.stays hHeld) hown12.lists hz2 (by omega) hn3 (few_app HFP.out hrt)).mono fun e q hq => ⟨_, hq.1, by rw [hLong.out], hq.2⟩) (by go_simp) ?_
                          rintro v u9 ⟨rfl, hb⟩
                          refine ⟨hHeld.trans (hb.mono hHeld.size), ?_⟩
                          try simp only [Act.put, List.setIfInBounds_toArray, List.set_cons_zero, List.set_cons_succ]
                          have hHeldN : Below wn.heap.size wn u9 := hHeld.trans (hb.mono hHeld.size)
                          clear hHeld hb
                          have hHeld := hHeldN
                          clear hHeldN
                          refine zVal (i := 92) (d := (some 164)) (v := ?_) rfl rfl (by kernel_rfl) (by kernel_rfl) (by kernel_rfl) (by kernel_rfl) hPQ (by rfl) (fun wq hSw => ?_) hHeld ?_
                          rotate_left 1
                          · have z0 := cell_stays hSw HCz.out; have z1 := cell_stays hSw HCq.out; go_simp; try with_reducible rfl
                          try simp only [Act.put, List.setIfInBounds_toArray, List.set_cons_zero, List.set_cons_succ]
                          refine zVal (i := 93) (d := (some 165)) (v := ?_) rfl rfl (by kernel_rfl) (by kernel_rfl) (by kernel_rfl) (by kernel_rfl) hPQ (by rfl) (fun wq hSw => ?_) hHeld ?_
                          rotate_left 1
                          · have z0 := cell_stays hSw HCz.out; have z1 := cell_stays hSw HCq.out; go_simp; try with_reducible rfl
                          try simp only [Act.put, List.setIfInBounds_toArray, List.set_cons_zero, List.set_cons_succ]
                          refine zVal (i := 94) (d := (some 166)) (v := ?_) rfl rfl (by kernel_rfl) (by kernel_rfl) (by kernel_rfl) (by kernel_rfl) hPQ (by rfl) (fun wq hSw => ?_) hHeld ?_
                          rotate_left 1
                          · have z0 := cell_stays hSw HCz.out; have z1 := cell_stays hSw HCq.out; go_simp; try with_reducible rfl
                          try simp only [Act.put, List.setIfInBounds_toArray, List.set_cons_zero, List.set_cons_succ]
                          as_aux_lemma =>
                            refine zVal (i := 95) (d := (some 167)) (v := ?_) rfl rfl (by kernel_rfl) (by kernel_rfl) (by kernel_rfl) (by kernel_rfl) hPQ (by rfl) (fun wq hSw => ?_) hHeld ?_
                            rotate_left 1
                            · have z0 := cell_stays hSw HCz.out; have z1 := cell_stays hSw HCq.out; go_simp; try with_reducible rfl
                            try simp only [Act.put, List.setIfInBounds_toArray, List.set_cons_zero, List.set_cons_succ]
                            refine zVal (i := 96) (d := (some 168)) (v := ?_) rfl rfl (by kernel_rfl) (by kernel_rfl) (by kernel_rfl) (by kernel_rfl) hPQ (by rfl) (fun wq hSw => ?_) hHeld ?_
                            rotate_left 1
                            · have z0 := cell_stays hSw HCz.out; have z1 := cell_stays hSw HCq.out; go_simp; try with_reducible rfl
                            try simp only [Act.put, List.setIfInBounds_toArray, List.set_cons_zero, List.set_cons_succ]
                            refine zVal (i := 97) (d := (some 169)) (v := ?_) rfl rfl (by kernel_rfl) (by kernel_rfl) (by kernel_rfl) (by kernel_rfl) hPQ (by rfl) (fun wq hSw => ?_) hHeld ?_
                            rotate_left 1
                            · have z0 := cell_stays hSw HCz.out; have z1 := cell_stays hSw HCq.out; go_simp; try with_reducible rfl
                            try simp only [Act.put, List.setIfInBounds_toArray, List.set_cons_zero, List.set_cons_succ]
                            refine zVal (i := 98) (d := (some 170)) (v := ?_) rfl rfl (by kernel_rfl) (by kernel_rfl) (by kernel_rfl) (by kernel_rfl) hPQ (by rfl) (fun wq hSw => ?_) hHeld ?_
                            rotate_left 1
                            · have z0 := cell_stays hSw HCz.out; have z1 := cell_stays hSw HCq.out; go_simp; try with_reducible rfl
                            try simp only [Act.put, List.setIfInBounds_toArray, List.set_cons_zero, List.set_cons_succ]
                            refine zVal (i := 99) (d := (some 171)) (v := ?_) rfl rfl (by kernel_rfl) (by kernel_rfl) (by kernel_rfl) (by kernel_rfl) hPQ (by rfl) (fun wq hSw => ?_) hHeld ?_
                            rotate_left 1
                            · have z0 := cell_stays hSw HCz.out; have z1 := cell_stays hSw HCq.out; go_simp; try with_reducible rfl
                            try simp only [Act.put, List.setIfInBounds_toArray, List.set_cons_zero, List.set_cons_succ]
                            refine zVal (i := 100) (d := (some 172)) (v := ?_) rfl rfl (by kernel_rfl) (by kernel_rfl) (by kernel_rfl) (by kernel_rfl) hPQ (by rfl) (fun wq hSw => ?_) hHeld ?_
                            rotate_left 1
                            · have z0 := cell_stays hSw HCz.out; have z1 := cell_stays hSw HCq.out; go_simp; try with_reducible rfl
                            try simp only [Act.put, List.setIfInBounds_toArray, List.set_cons_zero, List.set_cons_succ]
                            refine zVal (i := 101) (d := (some 173)) (v := ?_) rfl rfl (by kernel_rfl) (by kernel_rfl) (by kernel_rfl) (by kernel_rfl) hPQ (by rfl) (fun wq hSw => ?_) hHeld ?_
                            rotate_left 1
                            · have z0 := cell_stays hSw HCz.out; have z1 := cell_stays hSw HCq.out; go_simp; try with_reducible rfl
                            try simp only [Act.put, List.setIfInBounds_toArray, List.set_cons_zero, List.set_cons_succ]
                            refine zVal (i := 102) (d := (some 174)) (v := ?_) rfl rfl (by kernel_rfl) (by kernel_rfl) (by kernel_rfl) (by kernel_rfl) hPQ (by rfl) (fun wq hSw => ?_) hHeld ?_
                            rotate_left 1
                            · have z0 := cell_stays hSw HCz.out; have z1 := cell_stays hSw HCq.out; go_simp; try with_reducible rfl
                            try simp only [Act.put, List.setIfInBounds_toArray, List.set_cons_zero, List.set_cons_succ]
                            refine zMake (j := 103) (d := (some 175)) (R := fun v w' => v = .bool true ∧ Below u9.heap.size u9 w') rfl rfl (by kernel_rfl) (by rfl) ((check_any _ N z _ _ _ _ _ _ _ _ _ _ _ _ (RB.out.stays hHeld) (ZB.out.stays hHeld) (PL.out.stays hHeld) hz2 (by omega) hn3 HFP.out).mono fun e q hq => ⟨_, hq.1, by rw [HCK.out], hq.2⟩) (by go_simp) ?_
                            rintro v u10 ⟨rfl, hb⟩
                            refine ⟨hHeld.trans (hb.mono hHeld.size), ?_⟩
                            try simp only [Act.put, List.setIfInBounds_toArray, List.set_cons_zero, List.set_cons_succ]
                            have hHeldN : Below wn.heap.size wn u10 := hHeld.trans (hb.mono hHeld.size)
                            clear hHeld hb
                            have hHeld := hHeldN
                            clear hHeldN
                            refine zVal (i := 104) (d := (some 176)) (v := ?_) rfl rfl (by kernel_rfl) (by kernel_rfl) (by kernel_rfl) (by kernel_rfl) hPQ (by rfl) (fun wq hSw => ?_) hHeld ?_
                            rotate_left 1
                            · have z0 := cell_stays hSw HCz.out; have z1 := cell_stays hSw HCq.out; go_simp; try with_reducible rfl
                            try simp only [Act.put, List.setIfInBounds_toArray, List.set_cons_zero, List.set_cons_succ]
                            refine zVal (i := 105) (d := (some 12)) (v := ?_) rfl rfl (by kernel_rfl) (by kernel_rfl) (by kernel_rfl) (by kernel_rfl) hPQ (by rfl) (fun wq hSw => ?_) hHeld ?_
                            rotate_left 1
                            · have z0 := cell_stays hSw HCz.out; have z1 := cell_stays hSw HCq.out; go_simp; try with_reducible rfl
                            try simp only [Act.put, List.setIfInBounds_toArray, List.set_cons_zero, List.set_cons_succ]
                            refine zDone (by kernel_rfl) ?_ _
                            go_wp2
                            go_ret
                            exact ⟨rfl, RN.out.trans (hHeld.mono hsn)⟩
end Go.Proofs.Ytahphlcahaheiaa
