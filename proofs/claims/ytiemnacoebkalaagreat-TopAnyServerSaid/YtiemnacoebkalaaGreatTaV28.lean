import Derived.Test.YtiemnacoebkalaaGreatTaV09
import Derived.Test.YtiemnacoebkalaaGreatTaV11
import Derived.Test.YtiemnacoebkalaaGreatTaV17
import Derived.Test.YtiemnacoebkalaaGreatTaV23
import Derived.Test.YtiemnacoebkalaaGreatTaV25
set_option linter.all false
set_option maxRecDepth 100000
set_option maxHeartbeats 4000000
namespace Go.Proofs.YtiemnacoebkalaaGreat
open Go Go.RowKit Go.Shelf
attribute [local go_sem] Oper.semAt_some
def xorK (o : List UInt8) (at_ : Nat) (ks : List UInt8) : Nat -> List UInt8
 | 0 => o
 | j + 1 => (xorK o at_ ks j).set (at_ + j) (bU (xorK o at_ ks j) (at_ + j) ^^^ bU ks j)
theorem xorK_length (o : List UInt8) (at_ : Nat) (ks : List UInt8) : ∀ j, (xorK o at_ ks j).length = o.length
 | 0 => rfl
 | j + 1 => by unfold xorK; rw [List.length_set, xorK_length o at_ ks j]
def stStep (keys : List UInt8) (n : Nat) (s : List UInt8 × List UInt8) (i : Nat) : List UInt8 × List UInt8 := (xorK s.1 (i * 16) (aesB keys s.2) (min 16 (n - i * 16)), nextC s.2)
def stFold (keys : List UInt8) (n : Nat) (b ctr : List UInt8) (pre : List Nat) : List UInt8 × List UInt8 := pre.foldl (stStep keys n) (b, ctr)
theorem stFold_length (keys : List UInt8) (n : Nat) (b ctr : List UInt8) (pre : List Nat) : (stFold keys n b ctr pre).1.length = b.length ∧ (stFold keys n b ctr pre).2.length = ctr.length := by
 unfold stFold
 induction pre generalizing b ctr with
 | nil => exact ⟨rfl, rfl⟩
 | cons i r ih =>
  have := ih (stStep keys n (b, ctr) i).1 (stStep keys n (b, ctr) i).2; rw [List.foldl_cons]; refine ⟨this.1.trans ?_, this.2.trans ?_⟩
  · unfold stStep; exact xorK_length _ _ _ _
  · unfold stStep; exact nextC_length _
theorem stFold_snoc (keys : List UInt8) (n : Nat) (b ctr : List UInt8) (pre : List Nat) (i : Nat) : stFold keys n b ctr (pre ++ [i]) = stStep keys n (stFold keys n b ctr pre) i := by
 unfold stFold; rw [List.foldl_append]; rfl
def streamB (key ctr b : List UInt8) : List UInt8 := (stFold (keysB key) b.length b ctr (List.range ((b.length + 15) / 16))).1
theorem streamB_length (key ctr b : List UInt8) : (streamB key ctr b).length = b.length := (stFold_length _ _ _ _ _).1
section
variable {F : Fence} {d : Nat} {P : Program} {ops : Array Oper} {rest : List Oper} {o : Oper} {a : Act} {w w' : World} {Q : Exit -> Act -> World -> Prop} {v : Value}
theorem wpListIn_val (hF : WideF F) (hg : o.guard = none) (hnd : ∀ c, o.op ≠ .defer c) (hrun : (execOp a.eval o).run P w = .ok (.value v) w') (h : wpListIn F d P ops Q rest (a.put o.dst v) w') : wpListIn F d P ops Q (o :: rest) a w := by
 refine wpListIn_plain hg fun K hK => ⟨fun f _ => hF.fn f, ?_⟩
 rw [Oper.semAt_eq _ _ _ hnd, hrun]; exact hK _ _ h
theorem wpListIn_do (hF : WideF F) (hg : o.guard = none) (hnd : ∀ c, o.op ≠ .defer c) (hrun : (execOp a.eval o).run P w = .ok .skip w') (h : wpListIn F d P ops Q rest (a.put o.dst undef) w') : wpListIn F d P ops Q (o :: rest) a w := by
 refine wpListIn_plain hg fun K hK => ⟨fun f _ => hF.fn f, ?_⟩
 rw [Oper.semAt_eq _ _ _ hnd, hrun]; exact hK _ _ h
theorem wpListIn_load_mid (hF : WideF F) (hgd : o.guard = none) (ty : TypeId) (x : Operand) (ho : o.op = .load ty x)
    (b k : Nat) (hx : a.eval x = .pointer (some ⟨b, k, none⟩)) (cs : List Value) (dd : TypeDesc) (hc : w.rangeAt b k cs) (hu : P.underlying ty = some dd) (hd : dd.isRow = true) (hi : (P.info? ty).map (·.size) = some cs.length)
    (h : wpListIn F d P ops Q rest (a.put o.dst (.agg cs.toArray)) w) : wpListIn F d P ops Q (o :: rest) a w := by
 refine wpListIn_val hF hgd (by rw [ho]; intro c h; cases h) (v := .agg cs.toArray) (w' := w) ?_ h; have hl := run_loadAt_mid (P := P) w b k ty cs dd hc hu hd hi; unfold execOp; simp only [ho, hx, Sem.run_bind, hl, Result.andThen_ok, Sem.run_pure]
theorem wpListIn_store_blk (hF : WideF F) (hgd : o.guard = none) (ty : TypeId) (x y : Operand) (ho : o.op = .store ty x y) (b : Nat) (T : TypeId) (l m : List UInt8) (hx : a.eval x = .pointer (some ⟨b, 0, none⟩)) (hy : a.eval y = .agg (bytesC m)) (hB : Blk w b T (bytesC l)) (hl : l.length = m.length) (hi : (P.info? ty).map (·.size) = some m.length)
    (h : ∀ w2, Blk w2 b T (bytesC m) -> w.grownBy w2 (some b) -> wpListIn F d P ops Q rest (a.put o.dst undef) w2) : wpListIn F d P ops Q (o :: rest) a w :=
 wpListIn_do hF hgd (by rw [ho]; intro c h; cases h) (exec_store_blk ty x y ho b T l m hx hy hB hl hi) (h _ (blk_stored hB hl) (setCells_grown b (m.map byteV) 0 w))
end
theorem cells_ne {W : World} {A : Option Addr} {n c : Nat} {l : List UInt8} (h : Bytes W A n c l) {row : Option Nat} (hr : ∀ r, row = some r -> ∃ o : Obj, W.heap[r]? = some o ∧ o.isCells = false) : Off A n row := by
 intro a ha hn e; obtain ⟨o, ho, hc⟩ := hr _ e; obtain ⟨b, off, e2, hcell⟩ := h.at_ hn; rw [ha] at e2; injection e2 with e2
 subst e2; unfold World.cell? at hcell; rw [ho] at hcell
 cases o <;> simp_all [Obj.isCells]
theorem blk_ne {W : World} {g : Nat} {T : TypeId} {cs : Array Value} (h : Blk W g T cs) {row : Option Nat} (hr : ∀ r, row = some r -> ∃ o : Obj, W.heap[r]? = some o ∧ o.isCells = false) : some g ≠ row := by
 intro e; obtain ⟨o, ho, hc⟩ := hr g e.symm; have : W.heap[g]? = some (.cells cs T (0, 0)) := h; rw [this] at ho
 cases ho
 cases hc
theorem blk_ne' {W : World} {g n D : Nat} {T : TypeId} {l : List UInt8} {ds : Option (List Deferred)} (h : RowB W g T n l) (hK : W.heap[D]? = some (.deferred ds)) : some g ≠ some D := by
 intro e; injection e with e
 subst e; obtain ⟨_, cur, hB, _⟩ := h; have hB' : W.heap[g]? = some (.cells cur T (0, 0)) := hB; rw [hB'] at hK
 cases hK
theorem finRange_val (m : Nat) : (List.finRange m).map (·.1) = List.range m := by
 apply List.ext_getElem
 · simp
 · intro i h1 h2; simp
def StI (w : World) (z bc cb gC g n : Nat) (keys b ctr : List UInt8) (m : Nat) (pre : List (Fin m)) (W : World) : Prop :=
 (Blk W cb 222 #[.pointer (some ⟨gC, 0, none⟩)] ∧ Blk W gC 243 (bytesC keys) ∧ (0 < n -> RowB W g 5 n (stFold keys n b ctr (pre.map (·.1))).1) ∧
  ∃ Ac cc, Blk W bc 27 #[.slice Ac 16 cc] ∧ Bytes W Ac 16 cc (stFold keys n b ctr (pre.map (·.1))).2 ∧ (0 < n -> Off Ac 16 (some g)) ∧ Off Ac 16 (some bc) ∧ z <= W.heap.size) ∧ Below w.heap.size w W
theorem StI.own {w : World} {z bc cb gC g n : Nat} {keys b ctr : List UInt8} {m B : Nat} (hB : w.heap.size <= B) : OwnFrom B (StI w z bc cb gC g n keys b ctr m) := by
 refine OwnFrom.and (Own.from (fun s X Y row hs hg hr => ?_) B) (ownFrom_below (Nat.le_refl _) hB); obtain ⟨h1, h2, h3, Ac, cc, h4, h5, h6, h7, h8⟩ := hs; refine ⟨h1.grown hg (blk_ne h1 hr), h2.grown hg (blk_ne h2 hr), fun hn => ?_, Ac, cc, h4.grown hg (blk_ne h4 hr), h5.kept hg (cells_ne h5 hr), h6, h7, Nat.le_trans h8 hg.size⟩; obtain ⟨hl, cur, hb, ht⟩ := h3 hn; exact ⟨hl, cur, hb.grown hg (blk_ne hb hr), ht⟩
theorem stream_any (A : Option Addr) (c : Nat) (key : List UInt8) (A2 : Option Addr) (c2 : Nat) (ctr : List UInt8) (A3 : Option Addr) (n c3 : Nat) (b : List UInt8) (w : World) (hk : Bytes w A 16 c key) (hv : Bytes w A2 16 c2 ctr) (hb : Bytes w A3 n c3 b) (hn : n <= 65535) :
    Calls Tryz.prog 137 #[.slice A 16 c, .slice A2 16 c2, .slice A3 n c3] w fun e w' => ∃ A' c', e = .returned (.tuple #[.slice A' n c', .int .i64 0]) ∧ Bytes w' A' n c' (streamB key ctr b) ∧ Fresh w.heap.size A' ∧ Below w.heap.size w w' := by
 have HK := qq hk; have HV := qq hv; have HB := qq hb; have nI : ¬ (65535 : Int) < (n : Int) := by omega
 clear hk hv hb; refine (callsIn_wide (n := 5)).1 ?_; refine callsIn_of_wp_marks Tryz.func137 rfl trivial ?_ rfl; simp only [Tryz.ntmps137, List.size_toArray, List.length_cons, List.length_nil, Nat.reduceAdd, Nat.reduceSub, Array.replicate_succ, Array.replicate_zero, List.push_toArray, List.append_toArray, List.nil_append, List.cons_append]; refine (wpIn_wide (n := 5)).2 ?_; have HNK := qq HK.out.len
 go_wp2_with fail
 obtain ⟨y1, bc, ey1, ebc⟩ : ∃ y1 bc, y1 = w.alloc (.cells #[.slice A2 16 c2] 27) ∧ bc = w.heap.size := ⟨_, _, rfl, rfl⟩; rw [<- ey1, <- ebc]; have R1 := qq (show Below w.heap.size w y1 by rw [ey1]; exact below_alloc1 _ _); have BC := qq (show Blk y1 bc 27 #[.slice A2 16 c2] by rw [ey1, ebc]; exact blk_new1_0 _ _ _); have wbc : w.heap.size <= bc := by omega
 have bclt := BC.out.lt; clear ey1 ebc; refine (aesNew_any A c key _ (HK.out.stays R1.out)).mono ?_; rintro e y2 ⟨gC, rfl, hg, hblk, hb⟩; have R2 := qt R1 hb; have BC := qs BC hb; have BG := qq hblk; have wgC : w.heap.size <= gC := Nat.le_trans R1.out.size hg; have gCy2 := hblk.lt; have bcg : bc < gC := Nat.lt_of_lt_of_le bclt hg; clear hb hblk hg
 go_wp2_with fail
 refine (clone_any A3 n c3 b _ (HB.out.stays R2.out) (by omega)).mono ?_; rintro e y3 ⟨A4, c4, rfl, ho, hb⟩; have R3 := qt R2 hb; have BC := qs BC hb; have BG := qs BG hb; have HO := qq ho; clear hb ho
 go_upto_region 8 with fail
 obtain ⟨y4, cb, ey4, ecb⟩ : ∃ y4 cb, y4 = y3.alloc (.cells #[.pointer (some ⟨gC, 0, none⟩)] 222) ∧ cb = y3.heap.size := ⟨_, _, rfl, rfl⟩; rw [<- ey4, <- ecb]; have hb4 : Below y3.heap.size y3 y4 := by rw [ey4]; exact below_alloc1 _ _
 have BB := qq (show Blk y4 cb 222 #[.pointer (some ⟨gC, 0, none⟩)] by rw [ey4, ecb]; exact blk_new1_0 _ _ _); have gClt := BG.out.lt; have R4 := qt R3 hb4; have BC := qs BC hb4; have BG := qs BG hb4; have hG : ∃ g, 0 < n -> (A4 = some ⟨g, 0, none⟩ ∧ y2.heap.size <= g ∧ g < cb ∧ RowB y4 g 5 n b ∧ n <= c4 ∧ c4 <= maxLen) := by
  by_cases h0 : 0 < n
  · obtain ⟨g, e1, e2, e3, e4, e5⟩ := own_rowB HO.out h0 HB.out.len; exact ⟨g, fun _ => ⟨e1, e2, by rw [ecb]; exact e3.lt, e3.stays hb4, e4, e5⟩⟩
  · exact ⟨0, fun h => absurd h h0⟩
 obtain ⟨g, hG⟩ := hG; have HG := qq hG; have hcbl := BB.out.lt; have gCcb : gC < cb := by rw [ecb]; exact gClt
 clear hG hb4 ey4 ecb gClt
 go_wp2_with fail
 refine (chunk_any A4 n c4 16 (by decide) y4).mono ?_; rintro e y5 ⟨b1, b2, rfl, hb1, hb2, hB1, hB2, hb⟩; have R5 := qt R4 hb; have BC := qs BC hb; have BG := qs BG hb; have BB := qs BB hb; have B1 := qq hB1; have B2 := qq hB2; have HG := qq (show 0 < n -> (A4 = some ⟨g, 0, none⟩ ∧ y2.heap.size <= g ∧ g < cb ∧ RowB y5 g 5 n b ∧ n <= c4 ∧ c4 <= maxLen) from fun h => by obtain ⟨e1, e2, e3, e4, e5⟩ := HG.out h; exact ⟨e1, e2, e3, e4.stays hb, e5⟩); have hc4 : n <= c4 ∧ c4 <= 9223372036854775807 := by
  have h := own_rd HO.out; have h3 := h.2.2.1; unfold maxLen at h3; exact ⟨h.2.1, by omega⟩
 have b1c : cb < b1 := Nat.lt_of_lt_of_le hcbl hb1; have b2c : cb < b2 := Nat.lt_of_lt_of_le hcbl hb2; clear hb hB1 hB2 hb1 hb2 hcbl
 go_wp2_with fail
 refine (wpIn_wide (n := 5)).1 ?_; have hm : ∀ i, i < (n + 15) / 16 ↔ i * 16 < n := fun i => by omega
 obtain ⟨m, hmm⟩ : ∃ m, (n + 15) / 16 = m := ⟨_, rfl⟩; rw [hmm] at hm; have hoff : Off A2 16 (some bc) := fun a ha h0 e => by
  have := HV.out.lt (by decide) a ha; injection e with e
  omega
 have hoffg : 0 < n -> Off A2 16 (some g) := fun hn a ha h0 e => by
  have := HV.out.lt (by decide) a ha; have h2 := (HG.out hn).2.1; have h3 := R2.out.size; injection e with e
  omega
 have HI0 : Hid (StI w y5.heap.size bc cb gC g n (keysB key) b ctr m [] y5) := ⟨⟨BB.out, BG.out, fun h => (HG.out h).2.2.2.1, A2, c2, BC.out, HV.out.stays R5.out, hoffg, hoff, Nat.le_refl _⟩, R5.out⟩; have HSEQ := qq (chunk_stops 4 (by decide) b1 b2 g n c4 16 m A4 (fun h => (HG.out h).1) (by decide) (by decide) (by omega) hc4.1 hc4.2 hm y5 B1.out B2.out); have HM := qq hm; have HMM := qq hmm; have b1l := B1.out.lt; have b2l := B2.out.lt; clear hm hmm hoff hoffg; refine wpIn_rangeFunc_ownF (α := Fin m) (F := Fence.wide) (n := 5) rfl (by decide) (gf := 157) (lb := #[.pointer (some ⟨b1, 0, none⟩), .pointer (some ⟨b2, 0, none⟩)]) rfl trivial (enters_of Tryz.func157 (by kernel_rfl) rfl)
   HSEQ.out (fun h k => KpB.trans h k) (fun W l o o' hl h _ _ => ⟨World.putObj_heap_other (by omega), World.putObj_heap_other (by omega)⟩) (Below.refl _ _) (fun _ => rfl)
   (StI w y5.heap.size bc cb gC g n (keysB key) b ctr m) (fun _ _ _ => False) (StI.own R5.out.size) (fun _ _ _ _ _ h _ _ => h) HI0.out ?a1 ?assign ?body ?done ?stop
 case assign =>
  intro l x W K hK; unfold chk
  gi_wp2
  exact hK
 case body =>
  intro l pre x W hI hlen; obtain ⟨⟨hcb, hgC, hrow, Ac, cc, hbc, hby, ho1, ho2, hz5⟩, hbl⟩ := hI; have hx := x.2; have HX : Hid (stFold (keysB key) n b ctr ((pre ++ [x]).map (·.1)) = stStep (keysB key) n (stFold (keysB key) n b ctr (pre.map (·.1))) x.1) := by
   unfold Hid; rw [List.map_append]; exact stFold_snoc _ _ _ _ _ _
  obtain ⟨S, hS⟩ : ∃ S, stFold (keysB key) n b ctr (pre.map (·.1)) = S := ⟨_, rfl⟩; obtain ⟨s, cs⟩ := S; rw [hS] at hrow hby HX; obtain ⟨S2, hS2⟩ : ∃ S2, stFold (keysB key) n b ctr ((pre ++ [x]).map (·.1)) = S2 := ⟨_, rfl⟩; have HS2 := qq hS2; rw [hS2] at HX; obtain ⟨i, hi⟩ : ∃ i, x.1 = i := ⟨_, rfl⟩; rw [hi] at hx HX ⊢; have hxn : i * 16 < n := (HM.out i).1 hx; obtain ⟨q, hq⟩ : ∃ q, i * 16 = q := ⟨_, rfl⟩; obtain ⟨e, he⟩ : ∃ e, min 16 (n - q) = e := ⟨_, rfl⟩; have HX2 : Hid (S2 = (xorK s q (aesB (keysB key) cs) e, nextC cs)) := by
   unfold Hid; rw [HX.out]; unfold stStep; rw [hq, he]
  rw [hq] at hxn ⊢; rw [he]; have e1 : q + e <= n := by omega
  have e2 : e <= 16 := by omega
  have hn0 : 0 < n := by omega
  have ho1 := ho1 hn0; obtain ⟨eA, hg2, hgcb, _, _⟩ := HG.out hn0; have hby : Bytes W Ac 16 cc cs := hby; have hrow : 0 < n -> RowB W g 5 n s := hrow; have hcl := hby.len; obtain ⟨ba, oa, rfl, _⟩ := hby.at_ (by decide : 0 < 16); have hat := fun (W : World) => run_arrayAt (P := Tryz.prog) W 225 5 16 (some ⟨ba, oa, none⟩) 16 cc Tryz.underlying225 (by omega)
  have HRR := qq (hby.range 16); rw [List.take_of_length_le (by omega)] at HRR; have HROW := qq (hrow hn0); have HBC := qq hbc; have HBY := qq hby; have HCB := qq hcb; have HGC := qq hgC; have HBL := qq hbl; have HO1 := qq ho1; have cbc := hbc.cell 0; clear hS hS2 hi hq he hx hrow hby hbc hcb hgC hbl ho1 ho2 eA HX
  gi_wp2_with (first | (refine wpListIn_load_mid (.inr ⟨l, rfl⟩) rfl 225 _ rfl ba oa rfl (cs.map byteV) _ HRR.out Tryz.underlying225 rfl (by rw [List.length_map, hcl]; exact infoBlock) ?_) | (refine wpListIn_store_blk (.inr ⟨l, rfl⟩) rfl 225 _ _ rfl W.heap.size 225 (List.replicate 16 0) cs rfl rfl (Blk.new _ _ _) (by rw [hcl]; rfl) (by rw [hcl]; exact infoBlock) ?_; intro W2 D2 G2; have c8 := (HCB.out.stays (below_new_store G2)).cell 0))
  have hb2 := below_new_store G2; obtain ⟨x_, ex⟩ : ∃ x_, x_ = W.heap.size := ⟨_, rfl⟩; rw [<- ex] at D2 ⊢; have HB2 := qq hb2; have bcl := HBC.out.lt; have gl := HROW.out.lt; have gCl := HGC.out.lt; have cbl := HCB.out.lt; have wx : W.heap.size <= x_ := by omega
  have gx : g < x_ := by omega
  have bx : bc < x_ := by omega
  have gCx : gC < x_ := by omega
  have cbx : cb < x_ := by omega
  clear ex G2 c8 hb2 hat HRR cbc; have hkl : (keysB key).length = 176 := by have := wordsB_length key 40; unfold keysB; rw [this, HNK.out]
  refine ⟨trivial, (CallsIn.inRound l ((callsIn_wide (n := 2)).2 (encrypt_any gC x_ 225 (keysB key) cs W2 (HGC.out.stays HB2.out) hkl D2 hcl (Nat.ne_of_lt gCx)))).mono ?_⟩; rintro e' W3 ⟨rfl, hbz, hg3⟩; have hkl2 := aesB_length (keysB key) cs; obtain ⟨K, hK⟩ : ∃ K, aesB (keysB key) cs = K := ⟨_, rfl⟩; rw [hK] at hbz hkl2 HX2; have HB3 := qq (HB2.out.grown hg3 HB2.out.size (fun k hk => by cases hk; exact wx)); have HKB := qq hbz; have HR3 := qq (HROW.out.stays HB3.out); clear hbz hg3 D2 hkl hK HB2
  gi_wp2
  trace_state
  gi_loopw [39] (fun sv wr => ∃ (j : Nat), sv = .int .i64 j ∧ Hid (j <= e) ∧ Hid (RowB wr g 5 n (xorK s q K j)) ∧ W3.grownBy wr (some g)) (fun sv _ => match sv with | .int _ j => (e - j).toNat | _ => 0)
  case atStart => exact ⟨0, rfl, Nat.zero_le _, HR3.out, World.grownBy.refl _ _⟩
  case round =>
   obtain ⟨j, rfl, HJ, HR, hgr⟩ := hrel; have GQ := qq hgr; clear hgr; have HKB := qq (HKB.out.grown GQ.out (by simp; omega))
   by_cases hj : j < e
   · have hjI : (j : Int) < (e : Int) := by omega
     have hj16 : j < 16 := by omega
     have hqj : q + j < n := by omega
     have HN : Hid (xorK s q K (j + 1) = (xorK s q K j).set (q + j) (bU (xorK s q K j) (q + j) ^^^ bU K j)) := rfl; obtain ⟨r, hr⟩ : ∃ r, xorK s q K j = r := ⟨_, rfl⟩; rw [hr] at HR HN; obtain ⟨u, hu⟩ : ∃ u, bU r (q + j) = u := ⟨_, rfl⟩; obtain ⟨k, hk⟩ : ∃ k, bU K j = k := ⟨_, rfl⟩; rw [hu, hk] at HN; have hX := xor_u8 u k; obtain ⟨z, hz⟩ : ∃ z, u ^^^ k = z := ⟨_, rfl⟩; rw [hz] at HN hX; have i0 : (0 : Int) <= (j : Int) := by omega
     have i1 : (j : Int) < 16 := by omega
     clear hr hz
     gi_wp2_with fail
     trace_state
     -- REGION15
     refine mono_startIn (.inr ⟨l, rfl⟩) (by kernel_rfl) [pv (.slice (some ⟨g, q, none⟩) e e), pv (.int .i64 j), pv (.pointer (some ⟨g, q + j, none⟩)), pv (.int .u8 (u.toNat : Int)), pv (.int .i64 j), pv (.pointer (some ⟨x_, j, none⟩)), pv (.int .u8 (k.toNat : Int)), pv (.int .u8 (z.toNat : Int)), pv (.pointer (some ⟨g, q + j, none⟩))] (by kernel_rfl) (by kernel_rfl) (fun OPS AV AL K w0 hO hA hL hK hb0 hz => ?_); refine step_pv (d := (some 42)) (hO.out 0 _ rfl) rfl rfl (fun wq hw => ?_) ?_
     · clear hO hA hL hK
       go_simp; try first | with_reducible rfl | assumption
     try simp only [qp, qn]
     refine step_pv (d := (some 43)) (hO.out 1 _ rfl) rfl rfl (fun wq hw => ?_) ?_
     · clear hO hA hL hK
       go_simp; try first | with_reducible rfl | assumption
     try simp only [qp, qn]
     refine step_pv (d := (some 44)) (hO.out 2 _ rfl) rfl rfl (fun wq hw => ?_) ?_
     · clear hO hA hL hK
       go_simp; try first | with_reducible rfl | assumption
     try simp only [qp, qn]
     refine step_pg (d := (some 45)) (hO.out 3 _ rfl) rfl rfl (fun wq hw gt => ?_) ?_
     · have hx : Below wr.heap.size wr wq := hb0.trans (hw.mono hb0.size); have c1 := (HR.out.stays hx).cell hqj; rw [byteAt_bU, hu] at c1; clear gt hO hA hL hK
       go_simp; try first | with_reducible rfl | assumption
     try simp only [qp, qn]
     refine step_pv (d := (some 46)) (hO.out 4 _ rfl) rfl rfl (fun wq hw => ?_) ?_
     · clear hO hA hL hK
       go_simp; try first | with_reducible rfl | assumption
     try simp only [qp, qn]
     refine step_pv (d := (some 47)) (hO.out 5 _ rfl) rfl rfl (fun wq hw => ?_) ?_
     · clear hO hA hL hK
       go_simp; try first | with_reducible rfl | assumption
     try simp only [qp, qn]
     refine step_pg (d := (some 48)) (hO.out 6 _ rfl) rfl rfl (fun wq hw gt => ?_) ?_
     · have hx : Below wr.heap.size wr wq := hb0.trans (hw.mono hb0.size); have c1 := (HKB.out.stays hx).cell j; rw [bytesC_at (by omega), byteAt_bU, hk] at c1; clear gt hO hA hL hK
       go_simp; try first | with_reducible rfl | assumption
     try simp only [qp, qn]
     refine step_pv (d := (some 49)) (hO.out 7 _ rfl) rfl rfl (fun wq hw => ?_) ?_
     · clear hO hA hL hK
       go_simp; try first | with_reducible rfl | assumption
     try simp only [qp, qn]
     refine step_pv (d := (some 50)) (hO.out 8 _ rfl) rfl rfl (fun wq hw => ?_) ?_
     · clear hO hA hL hK
       go_simp; try first | with_reducible rfl | assumption
     try simp only [qp, qn]
     refine fun wq hw gt => hK.out _ _ ?_
     have hx : Below wr.heap.size wr wq := hb0.trans (hw.mono hb0.size); clear gt hO hA hL hK; have f1 := (HR.out.stays hx).frozen (q + j); have c1 := (HR.out.stays hx).cell hqj; refine tailIn_store (j := 9) (d := none) (w' := wq.setCell ⟨g, q + j, none⟩ (byteV z)) (.inr ⟨l, rfl⟩) (by kernel_rfl) rfl rfl rfl (by intro c h; cases h) ?hst ?_
     case hst => unfold byteV; go_simp; try with_reducible rfl
     try simp only [qp, qn]
     refine wpAnyIn_done (by kernel_rfl) ?_ _
     -- END15
     have D5 := qq ((HR.out.stays hx).put (q + j) z); have G5 := qq (grown_put (GQ.out.trans (grown_of_below hx (some g))) (q + j) (byteV z)); obtain ⟨W5, hW5⟩ : ∃ W5, wq.setCell ⟨g, q + j, none⟩ (byteV z) = W5 := ⟨_, rfl⟩; rw [hW5] at D5 G5 ⊢; rw [<- HN.out] at D5; clear hW5 hx hw hz hb0 c1 f1 HN hX hu hk HKB HR GQ
     gi_wp2
     go_roundw
     case rel => exact ⟨j + 1, by simp, qq (by omega), D5.out, G5.out⟩
     case measure => simp; omega
   · have ej : j = e := Nat.le_antisymm (show j <= e from HJ.out) (Nat.le_of_not_lt hj); subst ej; have bcg2 : bc < g := by omega
     have HBCw := qq ((HBC.out.stays HB3.out).grown GQ.out (by simp; omega)); have c9 := HBCw.out.cell 0; have HBYw := qq ((HBY.out.stays HB3.out).kept GQ.out HO1.out)
     gi_wp2_with fail
     refine ⟨trivial, (CallsIn.inRound l ((callsIn_wide (n := 2)).2 (next_any (some ⟨ba, oa, none⟩) cc cs _ HBYw.out))).mono ?_⟩; rintro e' W6 ⟨A5, c5, rfl, hB5, hF5, hb6⟩; have HBC6 := qs HBCw hb6; have c10 := HBC6.out.cell 0; have f10 := HBC6.out.frozen 0; have bcwr := HBCw.out.lt; have gwr := HR.out.lt; clear c9
     gi_wp2
     have s3 := HB3.out.size; have s4 := GQ.out.size; have KB : ∀ bb, bb < W.heap.size -> bb ≠ g -> bb ≠ bc -> (W6.setCell ⟨bc, 0, none⟩ (.slice A5 16 c5)).heap[bb]? = W.heap[bb]? := fun bb h1 h2 h3 =>
      (Below.heap_setCell W6 ⟨bc, 0, none⟩ _ bb h3).trans ((hb6.block bb (by omega)).trans ((GQ.out.block bb (by omega) (fun e => h2 (Option.some.inj e))).trans (HB3.out.block bb h1)))
     have hgr : W6.grownBy (W6.setCell ⟨bc, 0, none⟩ (.slice A5 16 c5)) (some bc) := grown_put (World.grownBy.refl _ _) 0 _; have hb1 : b1 ≠ g ∧ b1 ≠ bc ∧ b1 < W.heap.size := ⟨by omega, by omega, by omega⟩; have hb2' : b2 ≠ g ∧ b2 ≠ bc ∧ b2 < W.heap.size := ⟨by omega, by omega, by omega⟩; refine ⟨?_, ⟨KB b1 hb1.2.2 hb1.1 hb1.2.1, KB b2 hb2'.2.2 hb2'.1 hb2'.2.1⟩, ⟨HCB.out.same (KB cb cbl (by omega) (by omega)), HGC.out.same (KB gC gCl (by omega) (by omega)), fun _ => ?_, A5, c5, ?_, ?_, fun _ => ?_, ?_, ?_⟩, ?_⟩
     · refine (((KeepsOthers.of_grownBy (grown_of_below HB3.out none) (fun j o h => by cases h)).trans (KeepsOthers.of_grownBy GQ.out (fun j o h1 h2 => ?_))).trans (KeepsOthers.of_grownBy (grown_of_below hb6 none) (fun j o h => by cases h))).trans (KeepsOthers.setCell _ _ _)
       cases h1
       obtain ⟨_, cur, hB, _⟩ := HR3.out; have hB' : W3.heap[g]? = some (.cells cur 5 (0, 0)) := hB; rw [hB'] at h2
       cases h2
       rfl
     · rw [HS2.out, HX2.out]; exact (HR.out.stays hb6).grown hgr (by simp; omega)
     · exact HBC6.out.put 0 _
     · rw [HS2.out, HX2.out]; exact hB5.kept hgr (Off.fresh hF5 (fun k hk => by cases hk; exact bcwr))
     · exact Off.fresh hF5 (fun k hk => by cases hk; exact gwr)
     · exact Off.fresh hF5 (fun k hk => by cases hk; exact bcwr)
     · have := hb6.size; have := hgr.size; omega
     · have r3 := HBL.out.trans (HB3.out.mono HBL.out.size); have r4 := r3.grown GQ.out r3.size (fun k hk => by cases hk; have := R2.out.size; omega); have r5 := r4.trans (hb6.mono r4.size); exact r5.grown hgr r5.size (fun k hk => by cases hk; exact wbc)
 case done =>
  rintro D xs W hD rfl hI hK; obtain ⟨⟨_, _, hrow, _⟩, hbl⟩ := hI; have HRW := qq hrow; have HBL := qq hbl; clear hrow hbl; go_wp2; refine ⟨by simp, .inl ⟨_, _, rfl, run_takeDeferred hK, ?_⟩⟩; refine ⟨_, results_tmp2 rfl _ _ _, A4, c4, rfl, ?_, ?_, ?_⟩
  · by_cases hn0 : 0 < n
    · have h := (HRW.out hn0).grown (grownBy_putObj' W D (.deferred none)) (blk_ne' (HRW.out hn0) hK); obtain ⟨e1, e2, e3, e4, e5, e6⟩ := HG.out hn0; rw [e1]; have e7 : streamB key ctr b = (stFold (keysB key) n b ctr ((List.finRange m).map (·.1))).1 := by
       unfold streamB; rw [HB.out.len, HMM.out, finRange_val]
      rw [e7]; exact h.bytes e5 e6
    · obtain rfl : n = 0 := by omega
      have h := own_rd HO.out; have hl : streamB key ctr b = [] := List.eq_nil_of_length_eq_zero (by rw [streamB_length]; exact HB.out.len); rw [hl]; exact ⟨by simp, h.2.1, h.2.2.1, fun i u hu => by simp at hu⟩
  · exact (Fresh.own HO.out).more R2.out.size
  · exact HBL.out.trans (belowK_b (w := w) (Nat.le_refl _) W D _ _ (Nat.le_trans R5.out.size hD) hK rfl rfl)
 case stop =>
  rintro D cc pre W _ _ h _; exact h.elim
end Go.Proofs.YtiemnacoebkalaaGreat
namespace Go.Proofs.YtiemnacoebkalaaGreat
open Go Go.RowKit
theorem bU_set {l : List UInt8} {i p : Nat} {x : UInt8} (h : i < l.length) : bU (l.set i x) p = if p = i then x else bU l p := by
 unfold bU; simp only [List.getD_eq_getElem?_getD, List.getElem?_set]
 by_cases e : i = p
 · subst e; simp [h]
 · rw [if_neg e, if_neg (Ne.symm e)]
theorem xorK_at (o : List UInt8) (at_ : Nat) (ks : List UInt8) : ∀ (j : Nat), at_ + j <= o.length -> ∀ p, bU (xorK o at_ ks j) p = if at_ <= p ∧ p < at_ + j then bU o p ^^^ bU ks (p - at_) else bU o p
  | 0, _, p => by rw [if_neg (by omega)]; rfl
  | j + 1, hj, p => by
   have ih := xorK_at o at_ ks j (by omega); unfold xorK; rw [bU_set (by rw [xorK_length]; omega), ih p]
   by_cases e : p = at_ + j
   · subst e; rw [if_pos rfl, if_pos (by omega), ih (at_ + j), if_neg (by omega), Nat.add_sub_cancel_left]
   · rw [if_neg e]
     by_cases h : at_ <= p ∧ p < at_ + j
     · rw [if_pos h, if_pos (by omega)]
     · rw [if_neg h, if_neg (by omega)]
def ctrN (ctr : List UInt8) : Nat -> List UInt8
 | 0 => ctr
 | i + 1 => nextC (ctrN ctr i)
theorem stFold_at (keys : List UInt8) (b ctr : List UInt8) : ∀ (t : Nat), (∀ i, i < t -> i * 16 < b.length) -> (stFold keys b.length b ctr (List.range t)).2 = ctrN ctr t ∧
    ∀ p, p < b.length -> bU (stFold keys b.length b ctr (List.range t)).1 p = if p < t * 16 then bU b p ^^^ bU (aesB keys (ctrN ctr (p / 16))) (p % 16) else bU b p
 | 0, _ => ⟨rfl, fun p _ => by rw [if_neg (by omega)]; rfl⟩
 | t + 1, ht => by
  obtain ⟨h1, h2⟩ := stFold_at keys b ctr t (fun i hi => ht i (by omega)); have htb := ht t (by omega); rw [List.range_succ, stFold_snoc]; refine ⟨?_, fun p hp => ?_⟩
  · unfold stStep; rw [h1]; rfl
  · show bU (xorK (stFold keys b.length b ctr (List.range t)).1 (t * 16) (aesB keys (stFold keys b.length b ctr (List.range t)).2) (min 16 (b.length - t * 16))) p = _
    rw [xorK_at _ _ _ _ (by rw [(stFold_length keys b.length b ctr (List.range t)).1]; omega), h1, h2 p hp]
    by_cases e : t * 16 <= p ∧ p < t * 16 + min 16 (b.length - t * 16)
    · rw [if_pos e, if_neg (by omega), if_pos (by omega), show p / 16 = t by omega, show p % 16 = p - t * 16 by omega]
    · rw [if_neg e]
      by_cases h : p < t * 16
      · rw [if_pos h, if_pos (by omega)]
      · rw [if_neg h, if_neg (by omega)]
theorem streamB_at (key ctr b : List UInt8) {p : Nat} (hp : p < b.length) : bU (streamB key ctr b) p = bU b p ^^^ bU (aesB (keysB key) (ctrN ctr (p / 16))) (p % 16) := by
 unfold streamB; rw [(stFold_at (keysB key) b ctr ((b.length + 15) / 16) (fun i hi => by omega)).2 p hp, if_pos (by omega)]
theorem bU_ext {l m : List UInt8} (hl : l.length = m.length) (h : ∀ p, p < l.length -> bU l p = bU m p) : l = m := by
 apply List.ext_getElem hl; intro i h1 h2; have := h i h1; unfold bU at this
 simpa [List.getD_eq_getElem?_getD, h1, h2] using this
theorem streamB_twice (key ctr b : List UInt8) : streamB key ctr (streamB key ctr b) = b := by
 refine bU_ext (by rw [streamB_length, streamB_length]) fun p hp => ?_
 rw [streamB_length, streamB_length] at hp; rw [streamB_at _ _ _ (by rw [streamB_length]; exact hp), streamB_at _ _ _ hp, UInt8.xor_assoc, UInt8.xor_self, UInt8.xor_zero]
theorem and127n : ∀ x < 256, bits .and .u8 ((x : Nat) : Int) 127 = ((x % 128 : Nat) : Int) := by decide +kernel
theorem and127u (x : UInt8) : bits .and .u8 (x.toNat : Int) 127 = ((x &&& 127).toNat : Int) := by
 rw [and127n _ (UInt8.toNat_lt _), UInt8.toNat_and]
 congr 1
 exact (Nat.and_two_pow_sub_one_eq_mod x.toNat 7).symm
def maskC (t : List UInt8) : List UInt8 := (t.set 8 (bU t 8 &&& 127)).set 12 (bU t 12 &&& 127)
def strB (key tag b : List UInt8) : List UInt8 := streamB (key.drop 16) (maskC tag) b
theorem strB_twice (key tag b : List UInt8) : strB key tag (strB key tag b) = b := streamB_twice _ _ _
theorem strB_length (key tag b : List UInt8) : (strB key tag b).length = b.length := streamB_length _ _ _
def tagB (key : List UInt8) (ls : List (List UInt8)) (l : List UInt8) : List UInt8 := s2vB (key.take 16) (ls ++ [l])
theorem tagB_length (key : List UInt8) (ls : List (List UInt8)) (l : List UInt8) : (tagB key ls l).length = 16 := s2vB_length _ _
def sealB (key : List UInt8) (ls : List (List UInt8)) (l : List UInt8) : List UInt8 := tagB key ls l ++ strB key (tagB key ls l) l
theorem sealB_length (key : List UInt8) (ls : List (List UInt8)) (l : List UInt8) : (sealB key ls l).length = 16 + l.length := by
 unfold sealB; rw [List.length_append, tagB_length, strB_length]
theorem astream_any (key : List UInt8) (Ak : Option Addr) (ck : Nat) (At_ : Option Addr) (ct : Nat) (tag : List UInt8) (Ab : Option Addr) (n cb : Nat) (b : List UInt8) (w : World) (hk : Bytes w Ak 32 ck key) (ht : Bytes w At_ 16 ct tag) (hb : Bytes w Ab n cb b) (hn : n <= 65535) :
    Calls Tryz.prog 109 #[.slice Ak 32 ck, .slice At_ 16 ct, .slice Ab n cb] w fun e w' => ∃ A' c', e = .returned (.tuple #[.slice A' n c', .int .i64 0]) ∧ Bytes w' A' n c' (strB key tag b) ∧ Fresh w.heap.size A' ∧ Below w.heap.size w w' := by
 have HC := qq (clone_any At_ 16 ct tag w ht (by decide)); have HL := qq ht.len; have HB := qq hb; have kle := hk.le; have klc := hk.cap; obtain ⟨b0, o0, rfl, _⟩ := hk.at_ (by decide : 0 < 32); have kc1 : ¬ ck = 16 := by omega
 have kc2 : ¬ ck < 16 := by omega
 have HK16 := qq (show Bytes w (some ⟨b0, o0 + 16, none⟩) 16 (ck - 16) (key.drop 16) from by
  have h := hk.cutFrom 16 (by decide) (d := 16) (k := ck - 16) rfl rfl; unfold cutA at h; rw [if_neg kc1, Option.map_some, add_off] at h; exact h)
 clear ht hb hk
 go_enter Tryz.func109, Tryz.ntmps109
 go_wp2_with fail
 refine HC.out.mono ?_; rintro e w1 ⟨A1, c1, rfl, ho, hb1⟩; obtain ⟨g, rfl, hg, hR, hc1, hc2⟩ := own_rowB ho (by decide) HL.out; have hcm : c1 <= 9223372036854775807 := by unfold maxLen at hc2; omega
 have HR := qq hR; have R1 := qq hb1; have HC2 := qq hc2; have a1 := hR.cell (show 8 < 16 by decide); have f1 := hR.frozen 8; obtain ⟨x, hx⟩ : ∃ x, bU tag 8 = x := ⟨_, rfl⟩; rw [byteAt_bU, hx] at a1; have hA := and127u x; obtain ⟨y, hy⟩ : ∃ y, x &&& 127 = y := ⟨_, rfl⟩; rw [hy] at hA; have hA : bits .and .u8 (x.toNat : Int) 127 = (y.toNat : Int) := hA; have hl16 : tag.length = 16 := HL.out; have HX := qq (show bU tag 8 &&& 127 = y by rw [hx, hy]); clear ho hR hb1 HC hx hy
 go_upto_region 3 with fail
 have D2 := qq (HR.out.put 8 y); have G2 := qq (show w1.grownBy (w1.setCell ⟨g, 8, none⟩ (byteV y)) (some g) from grown_put (World.grownBy.refl _ _) 8 _); obtain ⟨w2, hw2⟩ : ∃ w2, w1.setCell ⟨g, 8, none⟩ (byteV y) = w2 := ⟨_, rfl⟩; have hw2' : w1.setCell ⟨g, 8, none⟩ (.int .u8 (y.toNat : Int)) = w2 := hw2; rw [hw2] at D2 G2; rw [hw2']; have a2 := D2.out.cell (show 12 < 16 by decide); have f2 := D2.out.frozen 12; have h12 : bU (tag.set 8 y) 12 = bU tag 12 := by rw [bU_set (by omega), if_neg (by decide)]
 obtain ⟨x2, hx2⟩ : ∃ x2, bU tag 12 = x2 := ⟨_, rfl⟩; rw [byteAt_bU, h12, hx2] at a2; have hA2 := and127u x2; obtain ⟨y2, hy2⟩ : ∃ y2, x2 &&& 127 = y2 := ⟨_, rfl⟩; rw [hy2] at hA2; have hA2 : bits .and .u8 (x2.toNat : Int) 127 = (y2.toNat : Int) := hA2; have HX2 := qq (show bU tag 12 &&& 127 = y2 by rw [hx2, hy2]); clear hx2 hy2 h12 hw2 hw2' a1 f1 hA HR
 go_upto_region 4 with fail
 have D3 := qq (D2.out.put 12 y2); have G3 := qq (show w1.grownBy (w2.setCell ⟨g, 12, none⟩ (byteV y2)) (some g) from grown_put G2.out 12 _); obtain ⟨w3, hw3⟩ : ∃ w3, w2.setCell ⟨g, 12, none⟩ (byteV y2) = w3 := ⟨_, rfl⟩; have hw3' : w2.setCell ⟨g, 12, none⟩ (.int .u8 (y2.toNat : Int)) = w3 := hw3; rw [hw3] at D3 G3; rw [hw3']; have HM : Hid ((tag.set 8 y).set 12 y2 = maskC tag) := by unfold Hid maskC; rw [HX.out, HX2.out]
 rw [HM.out] at D3; have R3 := qq (R1.out.grown G3.out R1.out.size (fun k hk => by cases hk; exact hg)); have D3b := qq (D3.out.bytes hc1 HC2.out); clear hw3 hw3' a2 f2 hA2 D2 G2 G3 HM HX HX2 hl16
 go_wp2_with fail
 refine (stream_any _ (ck - 16) (key.drop 16) _ c1 (maskC tag) Ab n cb b _ (HK16.out.stays R3.out) D3b.out (HB.out.stays R3.out) hn).mono ?_; rintro e w4 ⟨A4, c4, rfl, h1, h2, h3⟩; have H1 := qq h1; clear h1; go_wp2
 go_returns
 exact ⟨A4, c4, rfl, H1.out, h2.more R3.out.size, R3.out.trans (h3.mono R3.out.size)⟩
theorem seal_any (key : List UInt8) (Ak : Option Addr) (ck : Nat) (A : Option Addr) (n c : Nat) (ls : List (List UInt8)) (Ap : Option Addr) (np cp : Nat) (l : List UInt8) (w : World) (hk : Bytes w Ak 32 ck key) (hv : Lists w A n c ls) (hp : Bytes w Ap np cp l) (hn : 0 < n) (hn2 : n <= 16) (hb : ∀ i, (listAt ls i).length <= 65519) (hl : np <= 65519) :
    Calls Tryz.prog 67 #[.slice Ak 32 ck, .slice A n c, .slice Ap np cp] w fun e w' => ∃ A' c', e = .returned (.tuple #[.slice A' (16 + np) c', .int .i64 0]) ∧ Bytes w' A' (16 + np) c' (sealB key ls l) ∧ Fresh w.heap.size A' ∧ Below w.heap.size w w' := by
 have HT := qq (tag_any key Ak ck A n c ls Ap np cp l w hk hv hp hn hn2 hb hl); have HK := qq hk; have HP := qq hp; clear hk hv hp hb
 go_enter Tryz.func67, Tryz.ntmps67
 go_wp2_with fail
 refine HT.out.mono ?_; rintro e w1 ⟨A1, rfl, h1, _, hb1⟩; have h1 : Bytes w1 A1 16 16 (tagB key ls l) := h1; have H1 := qq h1; have R1 := qq hb1; clear h1 hb1 HT
 go_wp2_with fail
 refine (astream_any key Ak ck A1 16 (tagB key ls l) Ap np cp l _ (HK.out.stays R1.out) H1.out (HP.out.stays R1.out) (by omega)).mono ?_; rintro e w2 ⟨A2, c2, rfl, h2, _, hb2⟩; have H2 := qq h2; have H1 := qs H1 hb2; have R2 := qt R1 hb2; clear h2 hb2
 go_wp2_with fail
 refine (join_any _ _ _ [tagB key ls l, strB key (tagB key ls l) l] _ (lists_made2 H1.out H2.out) (16 + np) (by simp [tagB_length, strB_length, HP.out.len]) (by omega)).mono ?_; rintro e w3 ⟨A3, c3, rfl, ho, hb3⟩; have HO := qq ho; have hx : Below w2.heap.size w2 w3 := ((Below.refl _ _).alloc (Nat.le_refl _) _).trans (hb3.mono (by simp)); have R3 := qt R2 hx; clear ho hb3 hx; go_wp2
 go_returns
 refine ⟨A3, c3, rfl, ?_, (Fresh.own HO.out).more (Nat.le_trans R2.out.size (by simp)), R3.out⟩; have h := own_rd HO.out; have e : [tagB key ls l, strB key (tagB key ls l) l].flatten = sealB key ls l := by simp [sealB]
 rw [e] at h; exact h
theorem open_any (key : List UInt8) (Ak : Option Addr) (ck : Nat) (A : Option Addr) (n c : Nat) (ls : List (List UInt8)) (As : Option Addr) (np cs : Nat) (l : List UInt8) (w : World) (hk : Bytes w Ak 32 ck key) (hv : Lists w A n c ls) (hp : Bytes w As (16 + np) cs (sealB key ls l)) (hn : 0 < n) (hn2 : n <= 16) (hb : ∀ i, (listAt ls i).length <= 65519) (hl : np <= 65519) :
    Calls Tryz.prog 59 #[.slice Ak 32 ck, .slice A n c, .slice As (16 + np) cs] w fun e w' => ∃ A' c', e = .returned (.tuple #[.slice A' np c', .int .i64 0]) ∧ Bytes w' A' np c' l ∧ Fresh w.heap.size A' ∧ Below w.heap.size w w' := by
 have hcheck := qq (check_any Ak ck A n c ls w hv hn2 hb); have hll : l.length = np := by have := hp.len; rw [sealB_length] at this; omega
 have HK := qq hk; have HL := qq hv; have HP := qq hp; have HB := qq hb; obtain ⟨N, hN⟩ : ∃ N, 16 + np = N := ⟨_, rfl⟩; rw [hN] at HP ⊢; have hNI : ¬ (65535 : Int) < (N : Int) := by omega
 have HN := qq hN; have HNp : Hid (N - 16 = np) := by unfold Hid; omega
 clear hk hv hp hb hll hN
 go_enter Tryz.func59, Tryz.ntmps59
 go_wp2_with fail
 refine hcheck.out.mono ?_; rintro e w1 ⟨rfl, hb1⟩; have R1 := qq hb1; clear hb1 hcheck
 go_wp2_with fail
 refine (cut_ok (sealB key ls l) As N cs 16 _ (HP.out.stays R1.out) (by have := HN.out; omega) (by have := HN.out; omega)).mono ?_; rintro e w2 ⟨A1, c1, A2, c2, rfl, h1, h2, hb2⟩; rw [HNp.out] at h2 ⊢; have e1 : (sealB key ls l).take 16 = tagB key ls l := by unfold sealB; rw [List.take_append_of_le_length (by rw [tagB_length]; exact Nat.le_refl _), List.take_of_length_le (by rw [tagB_length]; exact Nat.le_refl _)]
 have e2 : (sealB key ls l).drop 16 = strB key (tagB key ls l) l := by unfold sealB; rw [List.drop_append_of_le_length (by rw [tagB_length]; exact Nat.le_refl _), List.drop_of_length_le (by rw [tagB_length]; exact Nat.le_refl _), List.nil_append]
 rw [e1] at h1; rw [e2] at h2; have H1 := qq h1; have H2 := qq h2; have R2 := qt R1 hb2; clear h1 h2 hb2 e1 e2 R1
 go_wp2_with fail
 refine (astream_any key Ak ck A1 c1 (tagB key ls l) A2 np c2 _ _ (HK.out.stays R2.out) H1.out H2.out (by omega)).mono ?_; rintro e w3 ⟨A3, c3, rfl, h3, hf3, hb3⟩; rw [strB_twice] at h3; have H3 := qq h3; have HF := qq (hf3.more R2.out.size); have H1 := qs H1 hb3; have R3 := qt R2 hb3; clear h3 hb3 hf3 R2 H2
 go_wp2_with fail
 refine (tag_any key Ak ck A n c ls A3 np c3 l _ (HK.out.stays R3.out) (HL.out.stays R3.out) H3.out hn hn2 HB.out hl).mono ?_; rintro e w4 ⟨A4, rfl, h4, _, hb4⟩; have h4 : Bytes w4 A4 16 16 (tagB key ls l) := h4; have H4 := qq h4; have H1 := qs H1 hb4; have H3 := qs H3 hb4; have R4 := qt R3 hb4; clear h4 hb4 R3
 go_wp2_with fail
 refine (octSame_any A4 16 16 _ A1 16 c1 _ _ H4.out H1.out).mono ?_; rintro e w5 ⟨rfl, rfl⟩; have hd : decide (tagB key ls l = tagB key ls l) = true := decide_eq_true rfl; rw [hd]; clear hd; go_wp2
 go_returns
 exact ⟨A3, c3, rfl, H3.out, HF.out, R4.out⟩
end Go.Proofs.YtiemnacoebkalaaGreat
namespace Go.Proofs.YtiemnacoebkalaaGreat
open Go Go.RowKit Go.Shelf
attribute [local go_sem] Oper.semAt_some
section
variable {P : Program} {F : Fence} {n : Nat} {md : Region.Mode} {ops : Array Oper} {Q : Exit -> Act -> World -> Prop}
theorem tailIn_do {j fuel : Nat} {listed : Array Bool} {a : Act} {w w' : World} {o : Oper} {d : Option Tmp} {v : Value} (hF : WideF F) (hr : Region.ready md ops listed = [j]) (ho : ops[j]? = some o) (hd : o.dst = d) (hg : o.guard = none) (hnd : ∀ c, o.op ≠ .defer c) (hrun : (execOp a.eval o).run P w = .ok (.value v) w')
    (h : wpAnyIn F n P md ops Q fuel (listed.setIfInBounds j true) (a.put d v) w') : wpAnyIn F n P md ops Q (fuel + 1) listed a w := by
  subst hd; refine wpAnyIn_all hr (by simp) fun k hk => ?_
  obtain rfl : k = j := by simpa using hk
  unfold Go.wpOpIn; simp only [ho]; rw [if_pos (Region.unguarded hg _)]; refine ⟨fun f _ => hF.fn f, ?_⟩; rw [Oper.semAt_eq _ _ _ hnd, hrun]; exact h
end
theorem exec_append {P : Program} {o : Oper} {a : Act} {w w' : World} {s x : Operand} {t : TypeId} {v v1 v2 : Value} (ho : o.op = .call { callee := .builtin .append, args := #[s, x], argTypes := #[t, t] }) (hs : a.eval s = v1) (hx : a.eval x = v2) (hrun : (Builtin.append_ #[t, t] o.type #[v1, v2]).run P w = .ok v w') : (execOp a.eval o).run P w = .ok (.value v) w' := by
 simp [execOp, ho, resolve, invoke, builtin, hs, hx, hrun, Result.andThen]
theorem infoIntN : (Tryz.prog.info? 3).map (fun i => (i.zero, i.size, i.bytes)) = some (some (.int .i64 0), 1, 8) := by kernel_rfl
def NbI (w : World) (z t v : Nat) (pre : List (Fin 1)) (W : World) : Prop := (∃ (k : Nat) (AO : Option Addr) (co : Nat), k = pre.length ∧ Blk W t 77 #[.slice AO k co] ∧ z <= W.heap.size ∧ W.ownsRow z 3 1 (.slice AO k co) k (pre.map fun _ => Value.int .i64 (v : Int))) ∧ Below w.heap.size w W
theorem own_neN {W : World} {B e size n c k : Nat} {A : Option Addr} {xs : List Value} (h : W.ownsRow B e size (.slice A n c) k xs) {row : Option Nat} (hr : ∀ r, row = some r -> ∃ o : Obj, W.heap[r]? = some o ∧ o.isCells = false) : (Value.slice A n c).ownBlock = none ∨ (Value.slice A n c).ownBlock ≠ row := by
 rcases h.2 with ⟨e1, _⟩ | ⟨g, cap, cur, e1, _, hh, _⟩
 · rw [e1]; exact .inl rfl
 · rw [e1]; refine .inr (fun e2 => ?_); obtain ⟨o, ho, hc⟩ := hr g e2.symm; rw [hh] at ho
   cases ho
   cases hc
theorem own_cellsN {W : World} {B e size n c k : Nat} {A : Option Addr} {xs : List Value} (h : W.ownsRow B e size (.slice A n c) k xs) (j : Nat) (o : Obj) (h1 : (Value.slice A n c).ownBlock = some j) (h2 : W.heap[j]? = some o) : o.isCells = true := by
 rcases h.2 with ⟨e1, _⟩ | ⟨g, cap, cur, e1, _, hh, _⟩
 · rw [e1] at h1; cases h1
 · rw [e1] at h1
   cases h1
   rw [hh] at h2
   cases h2
   rfl
theorem NbI.own {w : World} {z t v B : Nat} (hB : w.heap.size <= B) : OwnFrom B (NbI w z t v) := by
 refine OwnFrom.and (Own.from (fun s X Y row hs hg hr => ?_) B) (ownFrom_below (Nat.le_refl _) hB); obtain ⟨k, AO, co, h1, h2, hz, h3⟩ := hs; exact ⟨k, AO, co, h1, h2.grown hg (blk_ne h2 hr), Nat.le_trans hz hg.size, h3.kept hg (own_neN h3 hr)⟩
theorem chunkO_stops (d : Nat) (hd : 1 <= d) (b1 b2 g off n c k m : Nat) (hk : 0 < k) (hk2 : k <= 1000) (hn : n <= 1000000) (hnc : n <= c) (hc : c <= 9223372036854775807) (hm : ∀ i, i < m ↔ i * k < n) (w : World)
    (h1 : Blk w b1 27 #[.slice (some ⟨g, off, none⟩) n c]) (h2 : Blk w b2 3 #[.int .i64 k]) :
    SeqStopsK Fence.wide d Tryz.prog 157 #[.pointer (some ⟨b1, 0, none⟩), .pointer (some ⟨b2, 0, none⟩)] (chk g off n k (m := m)) (KpB b1 b2) (fun ys => ys = List.finRange m) (fun _ => True) m w := fun l J Jx W hW hJ hJx hY h0 =>
 chunk1_in d hd _ l b1 b2 g off n c k m hk hk2 hn hnc hc hm J Jx hJ hY W (h1.stays hW) (h2.stays hW) h0
theorem numbers_two (A : Option Addr) (c : Nat) (l : List UInt8) (w : World) (hv : Bytes w A 2 c l) :
    Calls Tryz.prog 125 #[.slice A 2 c] w fun e w' => ∃ A' c', e = .returned (.tuple #[.slice A' 1 c', .bool true]) ∧ IntsL w' A' 1 c' [be64 l 2] ∧ Below w.heap.size w w' := by
 obtain ⟨i0, hi, hz0, hz1, hz2⟩ := info_parts infoIntN; obtain ⟨g, off, rfl, _⟩ := hv.at_ (by decide : 0 < 2); obtain ⟨v, hvv⟩ : ∃ v, be64 l 2 = v := ⟨_, rfl⟩; have hv16 : v < 65536 := by rw [<- hvv]; have h2 := two_lt l (by rw [hv.len]; decide); unfold two at h2; rw [be64_take] at h2; exact h2
 have hle := hv.le; have hcap := hv.cap; have HB := qq hv; have HV := qq hvv; rw [hvv]; clear hv hvv; have wv : IntKind.i64.wrap (v : Int) = (v : Int) := IntWalk.i64_in _ (by omega); refine (callsIn_wide (n := 5)).1 ?_; refine callsIn_of_wp_marks Tryz.func125 rfl trivial ?_ rfl; simp only [Tryz.ntmps125, List.size_toArray, List.length_cons, List.length_nil, Nat.reduceAdd, Nat.reduceSub, Array.replicate_succ, Array.replicate_zero, List.push_toArray, List.append_toArray, List.nil_append, List.cons_append]; refine (wpIn_wide (n := 5)).2 ?_
 go_wp2_with fail
 obtain ⟨y1, t_, ey1, et⟩ : ∃ y1 t_, y1 = w.alloc (.cells #[.slice none 0 0] 77) ∧ t_ = w.heap.size := ⟨_, _, rfl, rfl⟩; rw [<- ey1, <- et]; have R1 := qq (show Below w.heap.size w y1 by rw [ey1]; exact below_alloc1 _ _); have BT := qq (show Blk y1 t_ 77 #[.slice none 0 0] by rw [ey1, et]; exact blk_new1_0 _ _ _); have wt : w.heap.size <= t_ := by omega
 clear ey1 et; refine (chunk_any (some ⟨g, off, none⟩) 2 c 2 (by decide) y1).mono ?_; rintro e y5 ⟨b1, b2, rfl, hb1, hb2, hB1, hB2, hb⟩; have R5 := qt R1 hb; have tb1 : t_ < b1 := Nat.lt_of_lt_of_le BT.out.lt hb1; have tb2 : t_ < b2 := Nat.lt_of_lt_of_le BT.out.lt hb2; have BT := qs BT hb; have b1l := hB1.lt; have b2l := hB2.lt; have HSEQ := qq (chunkO_stops 4 (by decide) b1 b2 g off 2 c 2 1 (by decide) (by decide) (by decide) hle hcap (fun i => by omega) y5 hB1 hB2); have HI0 : Hid (NbI w y5.heap.size t_ v [] y5) := ⟨⟨0, none, 0, rfl, BT.out, Nat.le_refl _, own_nil _ _ _ _⟩, R5.out⟩; clear hb hB1 hB2 hb1 hb2
 go_wp2_with fail
 refine (wpIn_wide (n := 5)).1 ?_; refine wpIn_rangeFunc_ownF (α := Fin 1) (F := Fence.wide) (n := 5) rfl (by decide) (gf := 157) (lb := #[.pointer (some ⟨b1, 0, none⟩), .pointer (some ⟨b2, 0, none⟩)]) rfl trivial (enters_of Tryz.func157 (by kernel_rfl) rfl)
   HSEQ.out (fun h k => KpB.trans h k) (fun W l o o' hl h _ _ => ⟨World.putObj_heap_other (by omega), World.putObj_heap_other (by omega)⟩) (Below.refl _ _) (fun _ => rfl)
   (NbI w y5.heap.size t_ v) (fun _ _ _ => False) (NbI.own R5.out.size) (fun _ _ _ _ _ h _ _ => h) HI0.out ?a1 ?assign ?body ?done ?stop
 case assign =>
  intro l x W K hK; unfold chk
  gi_wp2
  exact hK
 case body =>
  intro lbl pre x W hI hlen; obtain rfl : pre = [] := List.eq_nil_of_length_eq_zero (by omega); obtain ⟨⟨k, AO, co, hk, hbt, hz9, hown⟩, hbl⟩ := hI; have hk0 : k = 0 := hk; subst hk0; clear hk; obtain ⟨i, hi9⟩ := x; have hi0 : i = 0 := by omega
  subst hi0; have HBT := qq hbt; have HO := qq hown; have RW := qq hbl; have HZ : Hid (y5.heap.size <= W.heap.size) := hz9; have HY : Hid (Bytes W (some ⟨g, off, none⟩) 2 2 l) := by
   have h := HB.out.stays hbl; exact ⟨h.1, Nat.le_refl _, by decide, h.2.2.2⟩
  clear hbt hown hbl hz9
  gi_wp2_with fail
  refine mono_startIn (.inr ⟨lbl, rfl⟩) (by kernel_rfl) [pv (.slice AO 0 co), pv (.slice (some ⟨g, off, none⟩) 2 2), pv (.int .u64 (v : Int)), pv (.int .i64 (v : Int)), mv (fun v' u => ∃ b', v' = .slice (some ⟨b', 0, none⟩) 1 1 ∧ Blk u b' 3 #[.int .i64 (v : Int)])] (by kernel_rfl) (by kernel_rfl) (fun OPS AV AL K w0 hO hA hL hK hb0 hz => ?_); refine step_pg (d := (some 13)) (hO.out 0 _ rfl) rfl rfl (fun wq hw gt => ?_) ?_
  · have hx : Below W.heap.size W wq := hb0.trans (hw.mono hb0.size); have k1 := (HBT.out.stays hx).cell 0; clear gt hO hA hL hK
    go_simp; try first | with_reducible rfl | assumption | decide
  try simp only [qp, qn]
  refine step_pv (d := (some 14)) (hO.out 1 _ rfl) rfl rfl (fun wq hw => ?_) ?_
  · clear hO hA hL hK
    go_simp; try first | with_reducible rfl | assumption | decide
  try simp only [qp, qn]
  refine step_pk (d := (some 15)) (hO.out 2 _ rfl) rfl rfl (fun wq hw gt => ?_) ?_
  · have hx : Below W.heap.size W wq := hb0.trans (hw.mono hb0.size); have h := get_any _ 2 _ _ _ (HY.out.stays hx); rw [HV.out] at h; refine ⟨_, _, ?_, h.mono (fun e q hq => ⟨hq.1, hq.2 ▸ Below.refl _ _⟩)⟩; clear gt hO hA hL hK
    go_simp
  try simp only [qp, qn]
  refine step_pv (d := (some 16)) (hO.out 3 _ rfl) rfl rfl (fun wq hw => ?_) ?_
  · clear hO hA hL hK
    go_simp; try first | with_reducible rfl | assumption | decide
  try simp only [qp, qn]
  refine step_mv (d := (some 17)) (hO.out 4 _ rfl) rfl rfl (fun wq hw gt => ?_) (fun v_4 x_4 => ?_)
  · have hx : Below W.heap.size W wq := hb0.trans (hw.mono hb0.size); refine ⟨_, _, ?_, ⟨_, rfl, Blk.new _ _ _⟩, (Below.refl _ _).alloc (Nat.le_refl _) _⟩; clear gt hO hA hL hK
    go_simp; try with_reducible rfl
  try simp only [qp, qn]
  refine fun wq hw gt => hK.out _ _ ?_
  obtain ⟨⟨b', rfl, hb'⟩, hbk⟩ := (gt 4 (hL.out 4 (by kernel_rfl))); have hx : Below W.heap.size W wq := hb0.trans (hw.mono hb0.size); clear gt hO hA hL hK; have HBT2 := qs HBT hx; have HO2 := own_below HO.out hx; have hzq : y5.heap.size <= wq.heap.size := Nat.le_trans HZ.out hx.size; have hRD : Rd wq 1 (some ⟨b', 0, none⟩) 1 1 [Value.int .i64 (v : Int)] := by
   refine ⟨rfl, Nat.le_refl _, by decide, fun j u hu => ⟨b', 0, rfl, ?_⟩⟩; have h9 := (hb'.stays hbk).cell (0 + j); rw [h9]
   simpa using hu
  obtain ⟨A8, c8, w8, hrun8, h8, hg8, hloc8⟩ := run_append_rd (P := Tryz.prog) (w := wq) 77 77 i0 (.int .i64 0) 8 Tryz.underlying77 hi hz0 hz1 hz2 rfl (by decide) HO2 hRD (by simp [Value.oneCell']) (by decide) (by decide) hzq; refine tailIn_do (j := 5) (d := some 18) (v := .slice A8 (0 + 1) c8) (w' := w8) (.inr ⟨lbl, rfl⟩) (by kernel_rfl) rfl rfl rfl (by intro c h; cases h) ?hst ?_
  case hst => exact exec_append rfl rfl rfl hrun8
  try simp only [qp, qn]
  have hne : some t_ ≠ (Value.slice AO 0 co).ownBlock := fun e => by
   have h1 := (HO2.lt t_ e.symm).1; exact absurd h1 (Nat.not_le_of_lt BT.out.lt)
  have HBT3 := qq (HBT2.out.grown hg8 hne); have f1 := HBT3.out.frozen 0; have c1 := HBT3.out.cell 0; refine tailIn_store (j := 6) (d := none) (w' := w8.setCell ⟨t_, 0, none⟩ (.slice A8 (0 + 1) c8)) (.inr ⟨lbl, rfl⟩) (by kernel_rfl) rfl rfl rfl (by intro c h; cases h) ?hst2 ?_
  case hst2 => go_simp; try with_reducible rfl
  try simp only [qp, qn]
  refine wpAnyIn_done (by kernel_rfl) ?_ _; have hgr : w8.grownBy (w8.setCell ⟨t_, 0, none⟩ (.slice A8 (0 + 1) c8)) (some t_) := grown_put (World.grownBy.refl _ _) 0 _; have tW := HBT.out.lt; have KB : ∀ bb, bb < W.heap.size -> t_ < bb -> bb < y5.heap.size -> (w8.setCell ⟨t_, 0, none⟩ (.slice A8 (0 + 1) c8)).heap[bb]? = W.heap[bb]? := fun bb h1 h2 h3 =>
   (Below.heap_setCell w8 ⟨t_, 0, none⟩ _ bb (show bb ≠ t_ by omega)).trans ((hg8.block bb (Nat.lt_of_lt_of_le h1 hx.size) (fun e => absurd (HO2.lt bb e.symm).1 (Nat.not_le_of_lt h3))).trans (hx.block bb h1))
  have HZ8 : y5.heap.size <= (w8.setCell ⟨t_, 0, none⟩ (.slice A8 (0 + 1) c8)).heap.size := Nat.le_trans hzq (Nat.le_trans hg8.size hgr.size); clear f1 c1 hrun8
  gi_wp2
  refine ⟨?_, ⟨KB b1 (Nat.lt_of_lt_of_le b1l HZ.out) tb1 b1l, KB b2 (Nat.lt_of_lt_of_le b2l HZ.out) tb2 b2l⟩, ⟨1, A8, c8, rfl, HBT3.out.put 0 _, HZ8, ?_⟩, ?_⟩
  · exact ((KeepsOthers.of_grownBy (grown_of_below hx none) (fun j o h => by cases h)).trans (KeepsOthers.of_grownBy hg8 (own_cellsN HO2))).trans (KeepsOthers.setCell _ _ _)
  · exact h8.kept hgr (.inr (fun e => absurd (h8.lt t_ e).1 (Nat.not_le_of_lt BT.out.lt)))
  · have r3 := RW.out.trans (hx.mono RW.out.size); have r4 := r3.grown hg8 r3.size (fun k hk => Nat.le_trans R5.out.size (HO2.lt k hk).1); exact r4.grown hgr r4.size (fun k hk => by cases hk; exact wt)
 case done =>
  rintro D xs W hD rfl hI hK; obtain ⟨⟨k, AO, co, hk, hbt, hz9, hown⟩, hbl⟩ := hI; have hk1 : k = 1 := hk; subst hk1; have HO := qq hown; have RW := qq hbl; have c9 := hbt.cell 0; clear hbt hown hbl hk; go_wp2; refine ⟨by simp, .inl ⟨_, _, rfl, run_takeDeferred hK, ?_⟩⟩; refine ⟨_, results_tmp2 rfl _ _ _, AO, co, rfl, ?_, ?_⟩
  · have h := HO.out.kept (grownBy_putObj' W D (.deferred none)) (own_neN HO.out (fun r e => by cases e; exact ⟨_, hK, rfl⟩)); exact own_rd h
  · exact RW.out.trans (belowK_b (w := w) (Nat.le_refl _) W D _ _ (Nat.le_trans R5.out.size hD) hK rfl rfl)
 case stop =>
  rintro D cc pre W _ _ h _; exact h.elim
end Go.Proofs.YtiemnacoebkalaaGreat
