import Derived.Test.YtiemnacoebkalaaGreatTaV31
set_option linter.all false
set_option maxRecDepth 100000
set_option maxHeartbeats 4000000
namespace Go.Proofs.YtiemnacoebkalaaGreat
open Go Go.RowKit
def kyS : List UInt8 := [115, 101, 99, 116, 105, 109, 101, 32, 107, 101, 121, 115]
def keyP (s : List UInt8) (p a : Nat) (y : UInt8) : List UInt8 := expandL s (labelL exS kyS (bodyL [p, a] ++ [y])) 32
theorem intsNew (w : World) (T : TypeId) (l : List Nat) (hl : l.length <= maxLen) : IntsL (w.alloc (.cells (l.map fun x : Nat => Value.int .i64 (x : Int)).toArray T)) (some ⟨w.heap.size, 0, none⟩) l.length l.length l :=
  ⟨by simp, Nat.le_refl _, hl, fun i u hu => ⟨_, _, rfl, by rw [(Blk.new _ _ _).cell, Nat.zero_add]; simpa using hu⟩⟩
theorem infoPr : (Tryz.prog.info? 29).map (·.size) = some 2 := by kernel_rfl
theorem keys1_any (cl : Bool) (s : List UInt8) (sa sb : Nat) (hsa : sa <= 1) (hsb : sb <= 1) (p a : Nat) (hp : p <= 65535) (ha : a <= 65535) (z : Int) (y : UInt8) (hzy : byteV y = .int .u8 z) (A1 A2 A3 : Option Addr) (c1 c2 c3 x_ p_ a_ : Nat) (w : World) (hc : Chan w (.agg #[.bool cl, .slice A1 32 c1, .slice A2 32 c2, .slice A3 32 c3, .int .i64 (sa : Int), .int .i64 (sb : Int)]) cl s sa sb)
    (h1 : Blk w x_ 60 #[.bool cl, .slice A1 32 c1, .slice A2 32 c2, .slice A3 32 c3, .int .i64 (sa : Int), .int .i64 (sb : Int)]) (h2 : Blk w p_ 3 #[.int .i64 p]) (h3 : Blk w a_ 3 #[.int .i64 a]) :
    Calls Tryz.prog 53 #[.int .u8 z, .pointer (some ⟨x_, 0, none⟩), .pointer (some ⟨p_, 0, none⟩), .pointer (some ⟨a_, 0, none⟩)] w fun e w' => ∃ A', e = .returned (.slice A' 32 32) ∧ Bytes w' A' 32 32 (keyP s p a y) ∧ Below w.heap.size w w' := by
 obtain ⟨i0, hi, hz0, hz1, hz2⟩ := info_parts infoByteA; have HC := qq hc; have BX := qq h1; have BP := qq h2; have BA := qq h3; have HZ := qq hzy; have HPA : Hid (∀ k, [p, a].getD k 0 <= 65535) := fun k => by
  match k with
  | 0 => exact hp
  | 1 => exact ha
  | k + 2 => simp
 clear hc h1 h2 h3 hzy
 go_enter Tryz.func53, Tryz.ntmps53
 go_wp2_with fail
 refine mono_start2 (fun _ => True) [pv (.agg #[.bool cl, .slice A1 32 c1, .slice A2 32 c2, .slice A3 32 c3, .int .i64 (sa : Int), .int .i64 (sb : Int)]), pv (.int .i64 p), pv (.int .i64 a), mv (fun v u => ∃ b', v = .slice (some ⟨b', 0, none⟩) 2 2 ∧ IntsL u (some ⟨b', 0, none⟩) 2 2 [p, a]), mv (fun v u => ∃ A' c', v = .slice A' 4 c' ∧ u.ownsRow w.heap.size 5 1 (.slice A' 4 c') 4 ((bodyL [p, a]).map byteV)), pv (.int .u8 z), mv (fun v u => ∃ b', v = .slice (some ⟨b', 0, none⟩) 1 1 ∧ Blk u b' 5 #[.int .u8 z]), ev (fun v u => ∃ A' c', v = .slice A' 5 c' ∧ Bytes u A' 5 c' (bodyL [p, a] ++ [y])) [3, 4, 6], mv (fun v u => ∃ A', v = .tuple #[.slice A' 32 32, .int .i64 0] ∧ Bytes u A' 32 32 (keyP s p a y)), mv (fun v u => ∃ A', v = .tuple #[.slice A' 32 32, .int .i64 0] ∧ Bytes u A' 32 32 (keyP s p a y)), mv (fun v u => ∃ A', v = .slice A' 32 32 ∧ Bytes u A' 32 32 (keyP s p a y)), pv (.int .i64 0), mv (fun v u => ∃ A', v = .slice A' 32 32 ∧ Bytes u A' 32 32 (keyP s p a y)), pv (.int .i64 0)] (by kernel_rfl) (by kernel_rfl) (fun OPS AV AL K w0 hO hA hL hK hb0 hz => ?_); refine step_pg (d := (some 9)) (hO.out 0 _ rfl) rfl rfl (fun wq hw gt => ?_) ?_
 · have hx : Below w.heap.size w wq := hb0.trans (hw.mono hb0.size); exact exec_load_part 60 _ rfl x_ 0 60 [] [.bool cl, .slice A1 32 c1, .slice A2 32 c2, .slice A3 32 c3, .int .i64 (sa : Int), .int .i64 (sb : Int)] [] _ rfl (BX.out.stays hx) rfl Tryz.underlying60 rfl infoCh
 try simp only [qp, qn]
 refine step_pg (d := (some 10)) (hO.out 1 _ rfl) rfl rfl (fun wq hw gt => ?_) ?_
 · have hx : Below w.heap.size w wq := hb0.trans (hw.mono hb0.size); have k1 := (BP.out.stays hx).cell 0; clear gt hO hA hL hK
   go_simp; try first | with_reducible rfl | assumption | decide
 try simp only [qp, qn]
 refine step_pg (d := (some 11)) (hO.out 2 _ rfl) rfl rfl (fun wq hw gt => ?_) ?_
 · have hx : Below w.heap.size w wq := hb0.trans (hw.mono hb0.size); have k1 := (BA.out.stays hx).cell 0; clear gt hO hA hL hK
   go_simp; try first | with_reducible rfl | assumption | decide
 try simp only [qp, qn]
 refine step_mv (d := (some 12)) (hO.out 3 _ rfl) rfl rfl (fun wq hw gt => ?_) (fun v_3 x_3 => ?_)
 · have hx : Below w.heap.size w wq := hb0.trans (hw.mono hb0.size); refine ⟨_, _, ?_, ⟨_, rfl, intsNew _ 3 [p, a] (by simp [maxLen])⟩, (Below.refl _ _).alloc (Nat.le_refl _) _⟩; clear gt hO hA hL hK
   go_simp; try with_reducible rfl
 try simp only [qp, qn]
 refine step_mc (d := (some 13)) (hO.out 4 _ rfl) rfl rfl (fun wq hw gt => ?_) (fun v_4 x_4 => ?_)
 · have hx : Below w.heap.size w wq := hb0.trans (hw.mono hb0.size); obtain ⟨⟨b', rfl, hI⟩, hbk⟩ := (gt 3 (hA.out 4 3 (by kernel_rfl))); refine ⟨_, _, ?_, (body_any _ 2 2 [p, a] _ (hI.stays hbk) HPA.out (by decide)).mono (fun e q h => ?_)⟩
   · clear gt hO hA hL hK
     go_simp
   obtain ⟨A', c', rfl, ho, hb⟩ := h; exact ⟨_, rfl, ⟨A', c', rfl, own_more ho hx.size⟩, hb⟩
 try simp only [qp, qn]
 refine step_pv (d := (some 14)) (hO.out 5 _ rfl) rfl rfl (fun wq hw => ?_) ?_
 · clear hO hA hL hK
   go_simp; try first | with_reducible rfl | assumption | decide
 try simp only [qp, qn]
 refine step_mv (d := (some 15)) (hO.out 6 _ rfl) rfl rfl (fun wq hw gt => ?_) (fun v_6 x_6 => ?_)
 · have hx : Below w.heap.size w wq := hb0.trans (hw.mono hb0.size); refine ⟨_, _, ?_, ⟨_, rfl, Blk.new _ _ _⟩, (Below.refl _ _).alloc (Nat.le_refl _) _⟩; clear gt hO hA hL hK
   go_simp; try with_reducible rfl
 try simp only [qp, qn]
 refine step_ev (by simp) (d := (some 16)) (hO.out 7 _ rfl) rfl rfl (fun wq hw gt => ?_) (fun v_7 x_7 => ?_)
 · have hx : Below w.heap.size w wq := hb0.trans (hw.mono hb0.size); obtain ⟨⟨A', c', rfl, ho⟩, hb4⟩ := (gt 4 (hA.out 7 4 (by kernel_rfl))); obtain ⟨⟨b', rfl, hB⟩, hb6⟩ := (gt 6 (hA.out 7 6 (by kernel_rfl))); obtain ⟨A8, c8, w2, hrun, h2, h3, h4⟩ := run_append_rd (P := Tryz.prog) 27 27 i0 (.int .u8 0) 1 Tryz.underlying27 hi hz0 hz1 hz2 rfl (by decide) (own_below ho hb4) (own_rd_one1 (hB.stays hb6)) (by intro u hu; rw [List.mem_singleton.1 hu]; rfl) (by decide) (by decide) hx.size; have hb7 : Below w.heap.size wq w2 := (Below.refl _ _).grown h3 hx.size (fun k hk => ((own_below ho hb4).lt k hk).1); refine ⟨_, w2, ?_, ⟨A8, c8, rfl, ?_⟩, by rw [hz]; exact hb7⟩
   · clear gt hO hA hL hK; exact exec_append rfl rfl rfl hrun
   · have h9 := own_rd h2; unfold Bytes; rw [List.map_append]; rw [show [y].map byteV = [Value.int .u8 z] by rw [List.map_cons, List.map_nil, HZ.out]]; exact h9
 try simp only [qp, qn]
 refine step_mc (d := (some 17)) (hO.out 8 _ rfl) rfl rfl (fun wq hw gt => ?_) (fun v_8 x_8 => ?_)
 · have hx : Below w.heap.size w wq := hb0.trans (hw.mono hb0.size); obtain ⟨⟨A', c', rfl, hB⟩, hbk⟩ := (gt 7 (hA.out 8 7 (by kernel_rfl))); refine ⟨_, _, ?_, (export_any _ cl s sa sb hsa hsb ⟨#[115, 101, 99, 116, 105, 109, 101, 32, 107, 101, 121, 115]⟩ (by decide) A' 5 c' _ _ (HC.out.stays hx) (hB.stays hbk)).mono (fun e q h => ?_)⟩
   · clear gt hO hA hL hK
     go_simp
   obtain ⟨A9, rfl, h1, h2⟩ := h; exact ⟨_, rfl, ⟨A9, rfl, h1⟩, h2⟩
 try simp only [qp, qn]
 refine step_mv (d := (some 8)) (hO.out 9 _ rfl) rfl rfl (fun wq hw gt => ?_) (fun v_9 x_9 => ?_)
 · have hx : Below w.heap.size w wq := hb0.trans (hw.mono hb0.size); obtain ⟨⟨A', rfl, hB⟩, hbk⟩ := (gt 8 (hA.out 9 8 (by kernel_rfl))); refine ⟨_, _, ?_, ⟨A', rfl, hB.stays hbk⟩, Below.refl _ _⟩; clear gt hO hA hL hK
   go_simp; try with_reducible rfl
 try simp only [qp, qn]
 refine step_mv (d := (some 18)) (hO.out 10 _ rfl) rfl rfl (fun wq hw gt => ?_) (fun v_10 x_10 => ?_)
 · have hx : Below w.heap.size w wq := hb0.trans (hw.mono hb0.size); obtain ⟨⟨A', rfl, hB⟩, hbk⟩ := (gt 9 (hA.out 10 9 (by kernel_rfl))); refine ⟨_, _, ?_, ⟨A', rfl, hB.stays hbk⟩, Below.refl _ _⟩; clear gt hO hA hL hK
   go_simp; try with_reducible rfl
 try simp only [qp, qn]
 refine step_pg (d := (some 19)) (hO.out 11 _ rfl) rfl rfl (fun wq hw gt => ?_) ?_
 · have hx : Below w.heap.size w wq := hb0.trans (hw.mono hb0.size); obtain ⟨⟨A', rfl, hB⟩, hbk⟩ := (gt 9 (hA.out 11 9 (by kernel_rfl))); clear gt hO hA hL hK
   go_simp; try first | with_reducible rfl | assumption | decide
 try simp only [qp, qn]
 refine step_mv (d := (some 6)) (hO.out 12 _ rfl) rfl rfl (fun wq hw gt => ?_) (fun v_12 x_12 => ?_)
 · have hx : Below w.heap.size w wq := hb0.trans (hw.mono hb0.size); obtain ⟨⟨A', rfl, hB⟩, hbk⟩ := (gt 10 (hA.out 12 10 (by kernel_rfl))); refine ⟨_, _, ?_, ⟨A', rfl, hB.stays hbk⟩, Below.refl _ _⟩; clear gt hO hA hL hK
   go_simp; try with_reducible rfl
 try simp only [qp, qn]
 refine step_pv (d := (some 7)) (hO.out 13 _ rfl) rfl rfl (fun wq hw => ?_) ?_
 · clear hO hA hL hK
   go_simp; try first | with_reducible rfl | assumption | decide
 try simp only [qp, qn]
 refine fun wq hw gt => hK.out _ _ ?_
 obtain ⟨⟨A', rfl, hB⟩, hbk⟩ := (gt 12 (hL.out 12 (by kernel_rfl))); have hx : Below w.heap.size w wq := hb0.trans (hw.mono hb0.size); clear gt hO hA hL hK; refine wpAnyH_done (by kernel_rfl) ?_ _; have HB := qq (hB.stays hbk); clear hB hbk; go_wp2; go_ret; exact ⟨A', rfl, HB.out, hx⟩
theorem keys_any (v : Value) (cl : Bool) (s : List UInt8) (sa sb : Nat) (hsa : sa <= 1) (hsb : sb <= 1) (p a : Nat) (hp : p <= 65535) (ha : a <= 65535) (w : World) (hc : Chan w v cl s sa sb) :
    Calls Tryz.prog 19 #[v, .int .i64 p, .int .i64 a] w fun e w' => ∃ A1 A2, e = .returned (.tuple #[.agg #[.slice A1 32 32, .slice A2 32 32], .int .i64 0]) ∧ Bytes w' A1 32 32 (keyP s p a 0) ∧ Bytes w' A2 32 32 (keyP s p a 1) ∧ Below w.heap.size w w' := by
 have hc' := hc; obtain ⟨A1, c1, A2, c2, A3, c3, rfl, _, _, _⟩ := hc'; have HC := qq hc; have hp0 : (0 : Int) <= p := by omega
 have ha0 : (0 : Int) <= a := by omega
 clear hc
 go_enter Tryz.func19, Tryz.ntmps19
 go_upto_region 1 with fail
 obtain ⟨wz, x_, p_, a_, r_, ewz, ex_, ep_, ea_, er_⟩ : ∃ wz x_ p_ a_ r_, wz = (((w.alloc (.cells #[.bool cl, .slice A1 32 c1, .slice A2 32 c2, .slice A3 32 c3, .int .i64 (sa : Int), .int .i64 (sb : Int)] 60)).alloc (.cells #[.int .i64 (p : Int)] 3)).alloc (.cells #[.int .i64 (a : Int)] 3)).alloc (.cells #[.slice none 0 0, .slice none 0 0] 29) ∧ x_ = w.heap.size ∧ p_ = w.heap.size + 1 ∧ a_ = w.heap.size + 1 + 1 ∧ r_ = w.heap.size + 1 + 1 + 1 := ⟨_, _, _, _, _, rfl, rfl, rfl, rfl, rfl⟩; have hb : Below w.heap.size w wz := by rw [ewz]; exact below_alloc4 _ _ _ _ _
 have BX := qq (show Blk wz x_ 60 #[.bool cl, .slice A1 32 c1, .slice A2 32 c2, .slice A3 32 c3, .int .i64 (sa : Int), .int .i64 (sb : Int)] by rw [ewz, ex_]; exact blk_new4_0 _ _ _ _ _ _ _ _ _); have BP := qq (show Blk wz p_ 3 #[.int .i64 (p : Int)] by rw [ewz, ep_]; exact blk_new4_1 _ _ _ _ _ _ _ _ _); have BA := qq (show Blk wz a_ 3 #[.int .i64 (a : Int)] by rw [ewz, ea_]; exact blk_new4_2 _ _ _ _ _ _ _ _ _); have BR := qq (show Blk wz r_ 29 #[.slice none 0 0, .slice none 0 0] by rw [ewz, er_]; exact blk_new4_3 _ _ _ _ _ _ _ _ _); have wr_ : w.heap.size <= r_ := by omega
 rw [<- ewz, <- er_, <- ea_, <- ep_, <- ex_]; have HC := qs HC hb; have RW := qq hb; clear hb ewz ex_ ep_ ea_ er_
 go_wp2_with (refine wpList_load_part rfl 60 _ rfl x_ 0 60 [] [.bool cl, .slice A1 32 c1, .slice A2 32 c2, .slice A3 32 c3, .int .i64 (sa : Int), .int .i64 (sb : Int)] [] _ rfl BX.out rfl Tryz.underlying60 rfl infoCh ?_)
 refine (chValid_any _ cl s sa sb hsa hsb _ HC.out).mono ?_; rintro e y2 ⟨rfl, hb⟩; have HC := qs HC hb; have BX := qs BX hb; have BP := qs BP hb; have BA := qs BA hb; have BR := qs BR hb; have RW := qt RW hb; clear hb; have cp := BP.out.cell 0; have ca := BA.out.cell 0
 go_wp2_with fail
 refine (number_any p hp0 (by omega) _).mono ?_; rintro e y3 ⟨rfl, rfl⟩
 go_wp2_with fail
 refine (number_any a ha0 (by omega) _).mono ?_; rintro e y4 ⟨rfl, rfl⟩; clear cp ca
 go_wp2_with fail
 refine (keys1_any cl s sa sb hsa hsb p a hp ha 0 0 rfl A1 A2 A3 c1 c2 c3 x_ p_ a_ _ HC.out BX.out BP.out BA.out).mono ?_; rintro e y5 ⟨K1, rfl, hk1, hb⟩; have HC := qs HC hb; have BX := qs BX hb; have BP := qs BP hb; have BA := qs BA hb; have BR := qs BR hb; have RW := qt RW hb; have HK1 := qq hk1; clear hb hk1
 go_wp2_with fail
 refine (keys1_any cl s sa sb hsa hsb p a hp ha 1 1 rfl A1 A2 A3 c1 c2 c3 x_ p_ a_ _ HC.out BX.out BP.out BA.out).mono ?_; rintro e y6 ⟨K2, rfl, hk2, hb⟩; have BR := qs BR hb; have RW := qt RW hb; have HK1 := qs HK1 hb; have HK2 := qq hk2; clear hb hk2
 go_wp2_with (refine wpList_store_part rfl 29 _ _ rfl r_ 0 29 [] [.slice none 0 0, .slice none 0 0] [] [.slice K1 32 32, .slice K2 32 32] rfl rfl BR.out rfl rfl infoPr (by simp [Value.oneCell']) ?_; intro y9 D9 G9; rw [List.append_nil, List.nil_append] at D9)
 refine bodyPost_ret (results_whole2 rfl _ _ r_ _ _ _ _ rfl rfl D9 Tryz.underlying29 rfl infoPr) rfl ⟨K1, K2, rfl, HK1.out.kept G9 (off_block HK1.out BR.out rfl), HK2.out.kept G9 (off_block HK2.out BR.out rfl), RW.out.grown G9 RW.out.size (fun k hk => by cases hk; exact wr_)⟩
theorem results_tcl {P : Program} {fn : Func} {r0 r s : Tmp} {ty : TypeId} (h : fn.results = #[.tmp r0, .cell r ty, .tmp s]) (tmps : Array Value) (w : World) (b : Nat) (T : TypeId) (cs : List Value) (d : TypeDesc) (v0 v : Value) (hx : tmps.getD r undef = .pointer (some ⟨b, 0, none⟩)) (hv0 : tmps.getD r0 undef = v0) (hv : tmps.getD s undef = v) (hB : Blk w b T cs.toArray) (hu : P.underlying ty = some d) (hd : d.isRow = true) (hi : (P.info? ty).map (·.size) = some cs.length) :
    (results fn tmps).run P w = .ok (.tuple #[v0, .agg cs.toArray, v]) w := by
 have hr : w.rangeAt b 0 cs := by
  have := Blk.range (pre := []) (mid := cs) (post := []) (by simpa using hB)
  simpa using this
 have hl := run_loadVar_mid (P := P) w b 0 ty cs d hr hu hd hi; unfold results; rw [h]; simp only [Array.mapM_eq_mapM_toList, List.mapM_cons, List.mapM_nil, hx, hv0, hv, asAddr, Sem.run_bind, Sem.run_pure, Sem.run_map, Result.andThen_ok, hl]; simp
theorem chosen_any (AM : Option Addr) (cM bM m_ : Nat) (rs : List RecT) (k x : Nat) (A2 : Option Addr) (c2 : Nat) (w : World) (hm : MsgV w (.agg #[.slice AM 3 cM, .map (some bM)]) rs) (hB : Blk w m_ 142 #[.slice AM 3 cM, .map (some bM)]) (hk : k <= 7) (h1 : (kindL rs k).length = 1) (h2 : (recD (kindL rs k) 0).length = 2) (hx : be64 (recD (kindL rs k) 0) 2 = x) (hx2 : x <= 65535) (hI : IntsL w A2 1 c2 [x]) :
    Calls Tryz.prog 121 #[.int .i64 k, .slice A2 1 c2, .pointer (some ⟨m_, 0, none⟩)] w fun e w' => ∃ B d, e = .returned (.tuple #[.int .i64 x, .agg #[.bool true, .int .i64 k, .slice B 2 d], .bool true]) ∧ Bytes w' B 2 d (putL x 2) ∧ Below w.heap.size w w' := by
 have HM := qq hm; have BM := qq hB; have HI := qq hI; have H1 := qq h1; have H2 := qq h2; have HX := qq hx; clear hm hB hI h1 h2 hx
 go_enter Tryz.func121, Tryz.ntmps121
 go_upto_region 1 with fail
 obtain ⟨y1, r_, ey1, er_⟩ : ∃ y1 r_, y1 = w.alloc (.cells #[.bool false, .int .i64 0, .slice none 0 0] 132) ∧ r_ = w.heap.size := ⟨_, _, rfl, rfl⟩; rw [<- ey1, <- er_]; have hb : Below w.heap.size w y1 := by rw [ey1]; exact below_alloc1 _ _
 have BR := qq (show Blk y1 r_ 132 #[.bool false, .int .i64 0, .slice none 0 0] by rw [ey1, er_]; exact Blk.new _ _ _); have wr_ : w.heap.size <= r_ := by omega
 have RW := qq hb; have HM := qs HM hb; have BM := qs BM hb; have HI := qs HI hb; clear hb ey1 er_
 go_wp2_with (refine wpList_load_part rfl 142 _ rfl m_ 0 142 [] [.slice AM 3 cM, .map (some bM)] [] _ rfl BM.out rfl Tryz.underlying142 rfl infoMsg ?_)
 refine (numbersM_one _ rs k _ HM.out hk H1.out H2.out).mono ?_; rintro e y2 ⟨A6, c6, rfl, hI6, hb⟩; rw [HX.out] at hI6; have HI := qs HI hb; have BR := qs BR hb; have RW := qt RW hb; have HC := qq (choose_one A6 1 c6 [x] x A2 1 c2 [x] _ hI6 HI.out (by decide) rfl (by simp)); clear hb hI6 HM BM
 go_wp2_with fail
 refine HC.out.mono ?_; rintro e y3 ⟨rfl, rfl⟩; clear HC HI
 go_upto_region 3 with (refine wpList_store_part rfl 132 _ _ rfl y2.heap.size 0 132 [] [.bool false, .int .i64 0, .slice none 0 0] [] [.bool true, .int .i64 (k : Int), .slice none 0 0] rfl rfl (Blk.new _ _ _) rfl rfl infoRec (by simp [Value.oneCell']) ?_; intro y4 D G; have G := below_new_store G; rw [List.append_nil, List.nil_append] at D)
 obtain ⟨o_, eo⟩ : ∃ o_, o_ = y2.heap.size := ⟨_, rfl⟩; rw [<- eo] at D ⊢; have BO := qq D; have BR0 := BR; have BR := qs BR G; have RW := qt RW G; have ro : r_ < o_ := by rw [eo]; exact BR0.out.lt
 have wo_ : w.heap.size <= o_ := by omega
 clear D G eo; have hx3 := below_alloc1 y4 (.cells #[.int .i64 (x : Int)] 3); have HBD := qq (body_any _ 1 1 [x] _ (intsNew y4 3 [x] (by simp [maxLen])) (fun k => by cases k <;> simp <;> omega) (by decide)); have HX3 := qq hx3; clear hx3
 go_wp2_with fail
 refine HBD.out.mono ?_; rintro e y5 ⟨B, d, rfl, hown, hb⟩; have hb := HX3.out.trans (hb.mono HX3.out.size); have HB : Hid (Bytes y5 B 2 d (putL x 2)) := by have h := own_rd hown; simp [bodyL] at h; exact h
 have BR := qs BR hb; have BO := qs BO hb; have RW := qt RW hb; clear hb hown HBD HX3; have f2 := BO.out.frozen 2; have k2 := BO.out.cell 2
 go_wp2_with fail
 obtain ⟨y7, ey7⟩ : ∃ y7, y5.setCell ⟨o_, 2, none⟩ (.slice B 2 d) = y7 := ⟨_, rfl⟩; have G7 : y5.grownBy y7 (some o_) := by rw [<- ey7]; exact grown_put (World.grownBy.refl _ _) 2 _
 have HB := qq (HB.out.kept G7 (off_block HB.out BO.out rfl)); have BR := qq (BR.out.grown G7 (by simp; omega)); have RW := qq (RW.out.grown G7 RW.out.size (fun k hk => by cases hk; exact wo_)); have BO := qq (show Blk y7 o_ 132 #[.bool true, .int .i64 (k : Int), .slice B 2 d] by rw [<- ey7]; exact BO.out.put 2 _); rw [ey7]; clear ey7 G7 f2 k2; refine take_start (S := fun u => Blk u o_ 132 #[.bool true, .int .i64 (k : Int), .slice B 2 d]) (by kernel_rfl) ?hPQ (BO.out.stays (Below.refl _ _).drew) (fun hPQ hHeld => ?rest)
 case hPQ => (repeat (with_reducible first | refine PQ.then ?_ | refine PQ.block ?_)); exact fun _ _ d _ _ h => by cases d <;> exact h
 case rest =>
 have hx : Below y7.heap.size y7 y7.drew := (Below.refl _ _).drew; obtain ⟨wq, hwq⟩ : ∃ wq, y7.drew = wq := ⟨_, rfl⟩; rw [hwq] at hHeld hx ⊢; clear hwq; have BR := qs BR hx; have HB := qs HB hx; have RW := qt RW hx; refine qv (i := 0) (d := some 26) (v := .int .i64 (x : Int)) rfl rfl (by kernel_rfl) hPQ (fun u hu => ?_) hHeld ?_
 · go_simp; try with_reducible rfl
 try simp only [qp, qn]
 refine qv (i := 1) (d := some 27) (v := .agg #[.bool true, .int .i64 (k : Int), .slice B 2 d]) rfl rfl (by kernel_rfl) hPQ (fun u hu => ?_) hHeld ?_
 · exact exec_load_part 132 _ rfl o_ 0 132 [] [.bool true, .int .i64 (k : Int), .slice B 2 d] [] _ rfl hu rfl Tryz.underlying132 rfl infoRec
 try simp only [qp, qn]
 refine qv (i := 2) (d := some 28) (v := .bool true) rfl rfl (by kernel_rfl) hPQ (fun u hu => ?_) hHeld ?_
 · go_simp; try with_reducible rfl
 try simp only [qp, qn]
 refine take_do (j := 3) (d := some 5) (v := .int .i64 (x : Int)) (w2 := wq) rfl rfl (by kernel_rfl) rfl (Or.inl (by go_simp; try with_reducible rfl)) hHeld ?_; try simp only [qp, qn]
 refine take_store_part2 (j := 4) rfl rfl (by kernel_rfl) rfl 132 _ _ rfl r_ 0 132 [] [.bool false, .int .i64 0, .slice none 0 0] [] [.bool true, .int .i64 (k : Int), .slice B 2 d] rfl rfl BR.out rfl rfl infoRec (by simp [Value.oneCell']) (fun u _ hu => hHeld.grown hu (by simp; omega)) (fun y9 D9 G9 => ?_); rw [List.append_nil, List.nil_append] at D9; try simp only [qp, qn]
 refine take_do (j := 5) (d := some 7) (v := .bool true) (w2 := y9) rfl rfl (by kernel_rfl) rfl (Or.inl (by go_simp; try with_reducible rfl)) (hHeld.grown G9 (by simp; omega)) ?_; try simp only [qp, qn]
 refine wpAnyH_done (by kernel_rfl) ?_ _
 go_wp2_with fail
 refine bodyPost_ret (results_tcl rfl _ _ r_ _ _ _ _ _ rfl rfl rfl D9 Tryz.underlying132 rfl infoRec) rfl ⟨B, d, rfl, HB.out.kept G9 (off_block HB.out BR.out rfl), RW.out.grown G9 RW.out.size (fun k hk => by cases hk; exact wr_)⟩
theorem wrap62b (n : Int) (h0 : 0 <= n) (h1 : n < 2 ^ 62) : IntKind.i64.wrap n = n := IntWalk.i64_in _ (by omega)
theorem mask32 (x : Nat) (h : x < 4002) : bits .and .i64 (x : Int) 4294967295 = (x : Int) := by
 have := bits_mask .i64 62 (by decide) wrap62b 32 (by decide) (x : Int) (by omega) (by omega); rw [show ((2 : Int) ^ 32 - 1) = 4294967295 by decide] at this; rw [this]; omega
theorem infoMst : (Tryz.prog.info? 126).map (fun i => (i.zero, i.size, i.bytes)) = some (some (.agg #[.int .i64 0, .slice none 0 0]), 2, 32) := by kernel_rfl
theorem own2 {w : World} {B g : Nat} {e : TypeId} {v1 v2 : Value} (h : Blk w g e #[v1, v2]) (hB : B <= g) : w.ownsRow B e 2 (.slice (some ⟨g, 0, none⟩) 1 1) 1 [v1, v2] :=
 ⟨rfl, .inr ⟨g, 1, #[v1, v2], rfl, hB, h, Nat.le_refl _, by decide, rfl, rfl⟩⟩
theorem own_ne' {α : Type} {sz : Nat} {enc : α -> Option Addr -> Nat -> Nat -> List Value} {dat : α -> List UInt8} {e : TypeId} {w : World} {B n c ob T : Nat} {A : Option Addr} {xs : List α} {cs : Array Value} (h : OwnItems sz enc dat e w B A n c xs) (hB : Blk w ob T cs) (hne : e ≠ T) : (Value.slice A n c).ownBlock ≠ some ob := by
 obtain ⟨vs, h1, _⟩ := h; intro he; rcases h1.2 with ⟨hv, _⟩ | ⟨g, cap, cur, hv, _, hg, _⟩
 · rw [hv] at he; simp [Value.ownBlock] at he
 · rw [hv] at he; have e2 : g = ob := by simpa [Value.ownBlock] using he
   subst e2; have hB' : w.heap[g]? = some (.cells cs T (0, 0)) := hB; rw [hg] at hB'; injection hB' with hB'
   injection hB' with _ h3
   exact hne h3
theorem OwnItems.keptB {α : Type} {sz : Nat} {enc : α -> Option Addr -> Nat -> Nat -> List Value} {dat : α -> List UInt8} {e : TypeId} {w w' : World} {B n c ob T : Nat} {A : Option Addr} {xs : List α} {cs : Array Value} (h : OwnItems sz enc dat e w B A n c xs) (hB : Blk w ob T cs) (hne : e ≠ T) (hc : noByte cs.toList = true) (hg : w.grownBy w' (some ob)) : OwnItems sz enc dat e w' B A n c xs := by
 have hn := own_ne' h hB hne; obtain ⟨vs, h1, h2⟩ := h; refine ⟨vs, h1.kept hg (by first | exact .inr hn | exact hn), h2.1, fun i x hx => ?_⟩; obtain ⟨A', n', c', e1, e2, e3⟩ := h2.2 i x hx; exact ⟨A', n', c', e1, e2.kept hg (off_block e2 hB hc), e3⟩
theorem rotate19_any (v : Value) (ks : List (Int × List UInt8)) (id : Nat) (key : List UInt8) (rest : List (Int × List UInt8)) (he : ks = ((id : Int), key) :: rest) (hid : id <= 4000) (hn3 : ks.length <= 3) (hg : RingG ks) (hfree : ∀ i, i < ks.length -> fldT ks i ≠ ((id + 1 : Nat) : Int)) (w : World) (h : RingV w v ks) : Calls Tryz.prog 24 #[v] w fun e w' => ∃ u, e = .returned (.tuple #[u, .int .i64 0]) ∧ RingV w' u ((((id + 1 : Nat) : Int), nextK key) :: ks) ∧ Below w.heap.size w w' := by
 obtain ⟨i0, hi, hz0, hz1, hz2⟩ := info_parts infoMst; have HV := qq (fun W hW => valid19_any v ks W hW hg); have HR := qq h; have HG := qq hg; have HFR := qq hfree; obtain ⟨A, n, c, rfl, hF⟩ := h; have HLn := qq hF.len; have hn := hF.len; have hn0 : 0 < n := by rw [<- hn, he]; simp
 have hn4 : n <= 3 := by omega
 obtain ⟨b, off, A0, n0, c0, eA, _, hc2, hK⟩ := hF.at_ hn0; subst eA; have ht0 : fldT ks 0 = (id : Int) := by rw [he]; rfl
 have hd0 : fldD ks 0 = key := by rw [he]; rfl
 have hg0 := hg.2.2.1 0 (by omega); rw [hd0] at hg0 hK; have h32 : n0 = 32 := by have := hK.len; omega
 subst h32; have hc2 : w.cell? ⟨b, off + 1, none⟩ = some (.slice A0 32 c0) := by simpa using hc2
 obtain ⟨b', off', _, _, _, eA, hc1, _, _⟩ := hF.at_ hn0; injection eA with eA
 injection eA with eb eo
 subst eb eo; rw [ht0] at hc1; have hc1 : w.cell? ⟨b, off, none⟩ = some (.int .i64 id) := by simpa using hc1
 have HC1 := qq hc1; have HC2 := qq hc2; have HK := qq hK; have HF := qq hF; have hFc := hF.cap; have hFle := hF.le; have nI : (0 : Int) < (n : Int) := by omega
 have nI0 : ¬ n = 0 := by omega
 obtain ⟨id1, hid1⟩ : ∃ id1, id + 1 = id1 := ⟨_, rfl⟩; have aI : (id : Int) + 1 = (id1 : Int) := by omega
 have hM := mask32 id1 (by omega); have w64 : wrap64 (id1 : Int) = (id1 : Int) := by unfold wrap64; omega
 rw [hid1] at HFR ⊢; clear hF hK hc1 hc2 hg0 ht0 hd0 he hg hfree hid hn hn3 hid1
 go_enter Tryz.func24, Tryz.ntmps24
 go_upto_region 1 with fail
 obtain ⟨y1, x_, r_, ey1, ex_, er_⟩ : ∃ y1 x_ r_, y1 = (w.alloc (.cells #[.slice (some ⟨b, off, none⟩) n c] 25)).alloc (.cells #[.slice none 0 0] 25) ∧ x_ = w.heap.size ∧ r_ = w.heap.size + 1 := ⟨_, _, _, rfl, rfl, rfl⟩; rw [<- ey1, <- er_, <- ex_]; have hb1 : Below w.heap.size w y1 := by rw [ey1]; exact below_alloc2 _ _ _
 have BX := qq (show Blk y1 x_ 25 #[.slice (some ⟨b, off, none⟩) n c] by rw [ey1, ex_]; exact blk_new2_0 _ _ _ _ _); have BR := qq (show Blk y1 r_ 25 #[.slice none 0 0] by rw [ey1, er_]; exact blk_new2_1 _ _ _ _ _); have wr_ : w.heap.size <= r_ := by omega
 have xr : x_ < r_ := by omega
 have RW := qq hb1; clear hb1 ey1 ex_ er_; have kc1 := BX.out.cell 0
 go_wp2_with fail
 refine (HV.out _ (HR.out.stays RW.out)).mono ?_; rintro e y2 ⟨rfl, hb⟩; have BX := qs BX hb; have BR := qs BR hb; have RW := qt RW hb; clear hb kc1; have kc1 := BX.out.cell 0; have kc2 := cell_stays RW.out HC2.out; have HKy := qq (HK.out.stays RW.out); have hcv := fun (W : World) => Lib.run_convert_bytes_const (P := Tryz.prog) W 27 5 #[.int .u8 115, .int .u8 101, .int .u8 99, .int .u8 116, .int .u8 105, .int .u8 109, .int .u8 101, .int .u8 32, .int .u8 110, .int .u8 101, .int .u8 120, .int .u8 116] 12 12 Tryz.underlying27 Tryz.underlying5
 go_wp2_with fail
 clear hcv; have SB := qq (show Bytes (y2.alloc (.cells #[.int .u8 115, .int .u8 101, .int .u8 99, .int .u8 116, .int .u8 105, .int .u8 109, .int .u8 101, .int .u8 32, .int .u8 110, .int .u8 101, .int .u8 120, .int .u8 116] 5 (12, 13))) (some ⟨y2.heap.size, 0, none⟩) 12 12 nextS from rd_mark y2 nextS (12, 13) 5 (by decide)); have hbx : Below y2.heap.size y2 (y2.alloc (.cells #[.int .u8 115, .int .u8 101, .int .u8 99, .int .u8 116, .int .u8 105, .int .u8 109, .int .u8 101, .int .u8 32, .int .u8 110, .int .u8 101, .int .u8 120, .int .u8 116] 5 (12, 13))) := below_alloc1 _ _; refine (refExpand_any key nextS A0 32 c0 _ 12 12 32 _ (HKy.out.stays hbx) SB.out (by decide) (by decide)).mono ?_; rintro e y3 ⟨U, cU, rfl, h1, hb1⟩; have hx : Below y2.heap.size y2 y3 := hbx.trans (hb1.mono (by simp)); have HU := qq h1; have BX := qs BX hx; have BR := qs BR hx; have RW := qt RW hx; clear hbx h1 hb1 hx SB; have HU : Hid (Bytes y3 U 32 cU (nextK key)) := HU; clear kc1 kc2; have kc1 := BX.out.cell 0; have kc2 := cell_stays RW.out HC1.out
 go_upto_region 5 with fail
 clear kc1 kc2; obtain ⟨y4, b_, o_, ey4, eb_, eo_⟩ : ∃ y4 b_ o_, y4 = (y3.alloc (.cells #[.int .i64 id1, .slice U 32 cU] 126)).alloc (.cells #[.slice (some ⟨y3.heap.size, 0, none⟩) 1 1] 25) ∧ b_ = y3.heap.size ∧ o_ = y3.heap.size + 1 := ⟨_, _, _, rfl, rfl, rfl⟩; rw [<- ey4, <- eo_]; have hb4 : Below y3.heap.size y3 y4 := by rw [ey4]; exact below_alloc2 _ _ _
 have BB := qq (show Blk y4 b_ 126 #[.int .i64 id1, .slice U 32 cU] by rw [ey4, eb_]; exact blk_new2_0 _ _ _ _ _); have BO := qq (show Blk y4 o_ 25 #[.slice (some ⟨b_, 0, none⟩) 1 1] by rw [ey4, eo_, eb_]; exact blk_new2_1 _ _ _ _ _); have xlt := BX.out.lt; have rlt := BR.out.lt; have BX := qs BX hb4; have BR := qs BR hb4; have HU := qs HU hb4; have wb : w.heap.size <= b_ := by rw [eb_]; exact RW.out.size
 have wo : w.heap.size <= o_ := by omega
 have xo : x_ < o_ := by omega
 have ro : r_ < o_ := by omega
 have RW := qt RW hb4; try rw [<- eb_]
 clear hb4 ey4 eb_ eo_ xlt rlt; have HO := qq (show OwnItems 2 encFld Prod.snd 126 y4 w.heap.size (some ⟨b_, 0, none⟩) 1 1 ([((id1 : Int), nextK key)] ++ ks.take 0) from ⟨[.int .i64 id1, .slice U 32 cU], own2 BB.out wb, by
  have h := (ItemsV.nil (enc := encFld) (dat := Prod.snd) (sz := 2) y4 (Value.slice (some ⟨b_, 0, none⟩) 1 1).ownBlock).snoc ((id1 : Int), nextK key) U 32 cU rfl HU.out (off_block HU.out BB.out rfl)
  simpa [encFld] using h⟩)
 clear BB HU
 go_upto_region 6 with fail
 go_loopw [7] (fun sv wr => ∃ (k : Nat) (Ao : Option Addr) (co : Nat), sv = .int .i64 k ∧ Hid (k <= n) ∧ Hid (Blk wr x_ 25 #[.slice (some ⟨b, off, none⟩) n c]) ∧ Hid (Blk wr r_ 25 #[.slice none 0 0]) ∧ Hid (Blk wr o_ 25 #[.slice Ao (k + 1) co]) ∧ Hid (OwnItems 2 encFld Prod.snd 126 wr w.heap.size Ao (k + 1) co ([((id1 : Int), nextK key)] ++ ks.take k)) ∧ Below w.heap.size w wr) (fun sv _ => match sv with | .int _ k => (n - k).toNat | _ => 0)
 case atStart => exact ⟨0, _, _, rfl, Nat.zero_le _, BX.out, BR.out, BO.out, HO.out, RW.out⟩
 case round =>
  clear BX BR BO HO RW; obtain ⟨k, Ao, co, rfl, HKn, BX, BR, BO, HO, hb⟩ := hrel; have RW := qq hb; clear hb; have kcX := BX.out.cell 0
  by_cases hk : k < n
  · have hkI : (k : Int) < (n : Int) := by omega
    have hk3 : (k : Int) < 3 := by omega
    have hk0 : (0 : Int) <= (k : Int) := by omega
    obtain ⟨b', off', Ak, nk, ck, eA, hck, hck2, hKk⟩ := (HF.out.stays RW.out).at_ hk; injection eA with eA
    injection eA with eb eo
    subst eb eo; have hgk := HG.out.2.2.1 k (by rw [HLn.out]; exact hk); have hnk : nk = 32 := by have := hKk.len; omega
    subst hnk; obtain ⟨qk, hqk⟩ : ∃ qk, off + k * 2 = qk := ⟨_, rfl⟩; rw [hqk] at hck hck2; obtain ⟨tk, htk⟩ : ∃ tk, fldT ks k = tk := ⟨_, rfl⟩; obtain ⟨dk, hdk⟩ : ∃ dk, fldD ks k = dk := ⟨_, rfl⟩; have HTK := qq htk; have HDK := qq hdk; have hne : tk ≠ (id1 : Int) := by rw [<- htk]; exact HFR.out k (by rw [HLn.out]; exact hk)
    have hnb : (tk == (id1 : Int)) = false := by simpa using hne
    rw [htk] at hck; rw [hdk] at hKk; obtain ⟨g2, o2, A9, n9, c9, eA2, hcn, _, _⟩ := HO.out.flds.at_ (show 0 < k + 1 by omega); subst eA2; have hcn : wr.cell? ⟨g2, o2, none⟩ = some (.int .i64 id1) := by
     have h := hcn; have e : fldT ([((id1 : Int), nextK key)] ++ ks.take k) 0 = (id1 : Int) := rfl; rw [e] at h
     simpa using h
    obtain ⟨k1, hk1⟩ : ∃ k1, k + 1 = k1 := ⟨_, rfl⟩; rw [hk1] at BO HO; have k1I : (0 : Int) < (k1 : Int) := by omega
    have k1n : ¬ k1 = 0 := by omega
    have kI1 : (k : Int) + 1 = (k1 : Int) := by omega
    have HOlt := qq HO.out.lt; have HKk := qq hKk; have hck := qq hck; have hck2 := qq hck2; have hcn := qq hcn; have aqk : off + k * 2 = qk := hqk; clear htk hdk hKk hgk hne hqk
    go_upto_region 8 with fail
    clear kcX; refine mono_start (fun _ => True) [pv (.pointer (some ⟨x_, 0, none⟩)), pv (.slice (some ⟨b, off, none⟩) n c), pv (.int .i64 k), pv (.pointer (some ⟨b, qk, none⟩)), pv (.pointer (some ⟨b, qk, none⟩)), pv (.int .i64 tk), pv (.pointer (some ⟨o_, 0, none⟩)), pv (.slice (some ⟨g2, o2, none⟩) k1 co), pv (.pointer (some ⟨g2, o2, none⟩)), pv (.pointer (some ⟨g2, o2, none⟩)), pv (.int .i64 id1), pv (.bool false)] (by kernel_rfl) (by kernel_rfl) (fun OPS AV AL K w0 hO hA hL hK hb0 hz => ?_); refine step_pv (d := (some 45)) (hO.out 0 _ rfl) rfl rfl (fun wq hw => ?_) ?_
    · clear hO hA hL hK
      go_simp; try first | with_reducible rfl | assumption | decide
    try simp only [qp, qn]
    refine step_pg (d := (some 46)) (hO.out 1 _ rfl) rfl rfl (fun wq hw gt => ?_) ?_
    · have hx : Below wr.heap.size wr wq := hb0.trans (hw.mono hb0.size); have c1 := (BX.out.stays hx).cell 0; clear gt hO hA hL hK
      go_simp; try first | with_reducible rfl | assumption | decide
    try simp only [qp, qn]
    refine step_pv (d := (some 47)) (hO.out 2 _ rfl) rfl rfl (fun wq hw => ?_) ?_
    · clear hO hA hL hK
      go_simp; try first | with_reducible rfl | assumption | decide
    try simp only [qp, qn]
    refine step_pv (d := (some 48)) (hO.out 3 _ rfl) rfl rfl (fun wq hw => ?_) ?_
    · clear hO hA hL hK
      go_simp; try first | with_reducible rfl | assumption | decide
    try simp only [qp, qn]
    refine step_pv (d := (some 49)) (hO.out 4 _ rfl) rfl rfl (fun wq hw => ?_) ?_
    · clear hO hA hL hK
      go_simp; try first | with_reducible rfl | assumption | decide
    try simp only [qp, qn]
    refine step_pg (d := (some 50)) (hO.out 5 _ rfl) rfl rfl (fun wq hw gt => ?_) ?_
    · have hx : Below wr.heap.size wr wq := hb0.trans (hw.mono hb0.size); have c1 := cell_stays hx hck.out; clear gt hO hA hL hK
      go_simp; try first | with_reducible rfl | assumption | decide
    try simp only [qp, qn]
    refine step_pv (d := (some 51)) (hO.out 6 _ rfl) rfl rfl (fun wq hw => ?_) ?_
    · clear hO hA hL hK
      go_simp; try first | with_reducible rfl | assumption | decide
    try simp only [qp, qn]
    refine step_pg (d := (some 52)) (hO.out 7 _ rfl) rfl rfl (fun wq hw gt => ?_) ?_
    · have hx : Below wr.heap.size wr wq := hb0.trans (hw.mono hb0.size); have c1 := (BO.out.stays hx).cell 0; clear gt hO hA hL hK
      go_simp; try first | with_reducible rfl | assumption | decide
    try simp only [qp, qn]
    refine step_pv (d := (some 53)) (hO.out 8 _ rfl) rfl rfl (fun wq hw => ?_) ?_
    · clear hO hA hL hK
      go_simp; try first | with_reducible rfl | assumption | decide
    try simp only [qp, qn]
    refine step_pv (d := (some 54)) (hO.out 9 _ rfl) rfl rfl (fun wq hw => ?_) ?_
    · clear hO hA hL hK
      go_simp; try first | with_reducible rfl | assumption | decide
    try simp only [qp, qn]
    refine step_pg (d := (some 55)) (hO.out 10 _ rfl) rfl rfl (fun wq hw gt => ?_) ?_
    · have hx : Below wr.heap.size wr wq := hb0.trans (hw.mono hb0.size); have c1 := cell_stays hx hcn.out; clear gt hO hA hL hK
      go_simp; try first | with_reducible rfl | assumption | decide
    try simp only [qp, qn]
    refine step_pv (d := (some 56)) (hO.out 11 _ rfl) rfl rfl (fun wq hw => ?_) ?_
    · clear hO hA hL hK
      go_simp; try first | with_reducible rfl | assumption | decide
    try simp only [qp, qn]
    refine fun wq hw gt => hK.out _ _ ?_
    have hx : Below wr.heap.size wr wq := hb0.trans (hw.mono hb0.size); clear gt hO hA hL hK; refine wpAnyH_done (by kernel_rfl) ?_ _; have BX := qs BX hx; have BR := qs BR hx; have BO := qs BO hx; have HO := qs HO hx; have HKk := qs HKk hx; have hck := qq (cell_stays hx hck.out); have hck2 := qq (cell_stays hx hck2.out); have RW := qt RW hx; clear hx hw hz hb0
    go_upto_region 10 with fail
    obtain ⟨z1, hz1'⟩ : ∃ z1, wq = z1 := ⟨_, rfl⟩; rw [hz1'] at BX BR BO HO HKk hck hck2 RW ⊢; have HOlt := qq HO.out.lt; clear hz1'; refine mono_start (fun _ => True) [pv (.pointer (some ⟨o_, 0, none⟩)), pv (.slice (some ⟨g2, o2, none⟩) k1 co), pv (.pointer (some ⟨x_, 0, none⟩)), pv (.slice (some ⟨b, off, none⟩) n c), pv (.int .i64 k), pv (.pointer (some ⟨b, qk, none⟩)), pv (.pointer (some ⟨b, qk, none⟩)), pv (.int .i64 tk), pv (.pointer (some ⟨x_, 0, none⟩)), pv (.slice (some ⟨b, off, none⟩) n c), pv (.int .i64 k), pv (.pointer (some ⟨b, qk, none⟩)), pv (.pointer (some ⟨b, qk + 1, none⟩)), pv (.slice Ak 32 ck), mv (fun v u => ∃ b', v = .slice (some ⟨b', 0, none⟩) 1 1 ∧ Blk u b' 27 #[.slice Ak 32 ck]), mv (fun v u => ∃ A' c', v = .slice A' 32 c' ∧ Bytes u A' 32 c' dk ∧ Fresh z1.heap.size A'), mv (fun v u => ∃ A' c', v = .agg #[.int .i64 tk, .slice A' 32 c'] ∧ Bytes u A' 32 c' dk ∧ Fresh z1.heap.size A'), mv (fun v u => ∃ A' c' b', v = .slice (some ⟨b', 0, none⟩) 1 1 ∧ Rd u 2 (some ⟨b', 0, none⟩) 1 1 [.int .i64 tk, .slice A' 32 c'] ∧ Bytes u A' 32 c' dk ∧ Fresh z1.heap.size A')] (by kernel_rfl) (by kernel_rfl) (fun OPS AV AL K w0 hO hA hL hK hb0 hz => ?_); refine step_pv (d := (some 58)) (hO.out 0 _ rfl) rfl rfl (fun wq hw => ?_) ?_
    · clear hO hA hL hK
      go_simp; try first | with_reducible rfl | assumption | decide
    try simp only [qp, qn]
    refine step_pg (d := (some 59)) (hO.out 1 _ rfl) rfl rfl (fun wq hw gt => ?_) ?_
    · have hx : Below z1.heap.size z1 wq := hb0.trans (hw.mono hb0.size); have c1 := (BO.out.stays hx).cell 0; clear gt hO hA hL hK
      go_simp; try first | with_reducible rfl | assumption | decide
    try simp only [qp, qn]
    refine step_pv (d := (some 60)) (hO.out 2 _ rfl) rfl rfl (fun wq hw => ?_) ?_
    · clear hO hA hL hK
      go_simp; try first | with_reducible rfl | assumption | decide
    try simp only [qp, qn]
    refine step_pg (d := (some 61)) (hO.out 3 _ rfl) rfl rfl (fun wq hw gt => ?_) ?_
    · have hx : Below z1.heap.size z1 wq := hb0.trans (hw.mono hb0.size); have c1 := (BX.out.stays hx).cell 0; clear gt hO hA hL hK
      go_simp; try first | with_reducible rfl | assumption | decide
    try simp only [qp, qn]
    refine step_pv (d := (some 62)) (hO.out 4 _ rfl) rfl rfl (fun wq hw => ?_) ?_
    · clear hO hA hL hK
      go_simp; try first | with_reducible rfl | assumption | decide
    try simp only [qp, qn]
    refine step_pv (d := (some 63)) (hO.out 5 _ rfl) rfl rfl (fun wq hw => ?_) ?_
    · clear hO hA hL hK
      go_simp; try first | with_reducible rfl | assumption | decide
    try simp only [qp, qn]
    refine step_pv (d := (some 64)) (hO.out 6 _ rfl) rfl rfl (fun wq hw => ?_) ?_
    · clear hO hA hL hK
      go_simp; try first | with_reducible rfl | assumption | decide
    try simp only [qp, qn]
    refine step_pg (d := (some 65)) (hO.out 7 _ rfl) rfl rfl (fun wq hw gt => ?_) ?_
    · have hx : Below z1.heap.size z1 wq := hb0.trans (hw.mono hb0.size); have c1 := cell_stays hx hck.out; clear gt hO hA hL hK
      go_simp; try first | with_reducible rfl | assumption | decide
    try simp only [qp, qn]
    refine step_pv (d := (some 66)) (hO.out 8 _ rfl) rfl rfl (fun wq hw => ?_) ?_
    · clear hO hA hL hK
      go_simp; try first | with_reducible rfl | assumption | decide
    try simp only [qp, qn]
    refine step_pg (d := (some 67)) (hO.out 9 _ rfl) rfl rfl (fun wq hw gt => ?_) ?_
    · have hx : Below z1.heap.size z1 wq := hb0.trans (hw.mono hb0.size); have c1 := (BX.out.stays hx).cell 0; clear gt hO hA hL hK
      go_simp; try first | with_reducible rfl | assumption | decide
    try simp only [qp, qn]
    refine step_pv (d := (some 68)) (hO.out 10 _ rfl) rfl rfl (fun wq hw => ?_) ?_
    · clear hO hA hL hK
      go_simp; try first | with_reducible rfl | assumption | decide
    try simp only [qp, qn]
    refine step_pv (d := (some 69)) (hO.out 11 _ rfl) rfl rfl (fun wq hw => ?_) ?_
    · clear hO hA hL hK
      go_simp; try first | with_reducible rfl | assumption | decide
    try simp only [qp, qn]
    refine step_pv (d := (some 70)) (hO.out 12 _ rfl) rfl rfl (fun wq hw => ?_) ?_
    · clear hO hA hL hK
      go_simp; try first | with_reducible rfl | assumption | decide
    try simp only [qp, qn]
    refine step_pg (d := (some 71)) (hO.out 13 _ rfl) rfl rfl (fun wq hw gt => ?_) ?_
    · have hx : Below z1.heap.size z1 wq := hb0.trans (hw.mono hb0.size); have c1 := cell_stays hx hck2.out; clear gt hO hA hL hK
      go_simp; try first | with_reducible rfl | assumption | decide
    try simp only [qp, qn]
    refine step_mv (d := (some 72)) (hO.out 14 _ rfl) rfl rfl (fun wq hw gt => ?_) (fun v_14 x_14 => ?_)
    · have hx : Below z1.heap.size z1 wq := hb0.trans (hw.mono hb0.size); refine ⟨_, _, ?_, ⟨_, rfl, Blk.new _ _ _⟩, (Below.refl _ _).alloc (Nat.le_refl _) _⟩; clear gt hO hA hL hK
      go_simp; try first | with_reducible rfl | rfl
    try simp only [qp, qn]
    refine step_mc (d := (some 73)) (hO.out 15 _ rfl) rfl rfl (fun wq hw gt => ?_) (fun v_15 x_15 => ?_)
    · have hx : Below z1.heap.size z1 wq := hb0.trans (hw.mono hb0.size); obtain ⟨⟨b', rfl, hB⟩, hbb⟩ := (gt 14 (hA.out 15 14 (by kernel_rfl))); refine ⟨_, _, ?_, (refJoin_any _ _ _ [dk] _ (VL.lists (VL.one (HKk.out.stays hx)) (own_rd_one1 (hB.stays hbb))) 32 (by simp [HKk.out.len]) (by decide)).mono (fun e q h => ?_)⟩
      · clear gt hO hA hL hK
        go_simp
      obtain ⟨A', c', rfl, ho, hb⟩ := h; have h2 := own_rd ho; rw [show [dk].flatten = dk by simp] at h2; exact ⟨_, rfl, ⟨A', c', rfl, h2, (Fresh.own ho).more hx.size⟩, hb⟩
    try simp only [qp, qn]
    refine step_mv (d := (some 74)) (hO.out 16 _ rfl) rfl rfl (fun wq hw gt => ?_) (fun v_16 x_16 => ?_)
    · have hx : Below z1.heap.size z1 wq := hb0.trans (hw.mono hb0.size); obtain ⟨⟨A', c', rfl, hB, hF⟩, hbb⟩ := (gt 15 (hA.out 16 15 (by kernel_rfl))); refine ⟨_, _, ?_, ⟨A', c', rfl, hB.stays hbb, hF⟩, Below.refl _ _⟩; clear gt hO hA hL hK
      go_simp; try first | with_reducible rfl | rfl
    try simp only [qp, qn]
    refine step_mv (d := (some 75)) (hO.out 17 _ rfl) rfl rfl (fun wq hw gt => ?_) (fun v_17 x_17 => ?_)
    · have hx : Below z1.heap.size z1 wq := hb0.trans (hw.mono hb0.size); obtain ⟨⟨A', c', rfl, hB, hF⟩, hbb⟩ := (gt 16 (hA.out 17 16 (by kernel_rfl))); refine ⟨_, _, ?_, ⟨A', c', _, rfl, rd_pair wq _ _ 126, (hB.stays hbb).stays (below_alloc1 _ _), hF⟩, below_alloc1 _ _⟩; clear gt hO hA hL hK
      go_simp; try first | with_reducible rfl | rfl
    try simp only [qp, qn]
    refine fun wq hw gt => hK.out _ _ ?_
    obtain ⟨⟨A', c', b', rfl, hrd, hB, hF⟩, hbb⟩ := (gt 17 (hL.out 17 (by kernel_rfl))); have hx : Below z1.heap.size z1 wq := hb0.trans (hw.mono hb0.size); clear gt hO hA hL hK; have BX := qs BX hx; have BR := qs BR hx; have BO := qs BO hx; have HO := qs HO hx; have RW := qt RW hx; have hrd := hrd.stays hbb; have hB := hB.stays hbb; have hoff : Off A' 32 (Value.slice (some ⟨g2, o2, none⟩) k1 co).ownBlock := Off.fresh hF (fun k' hk' => HOlt.out k' hk'); obtain ⟨A9, c9, w9, hrun, ho9, hg9, hb9⟩ := run_append_items (P := Tryz.prog) 23 23 i0 _ 32 Tryz.underlying23 hi hz0 hz1 hz2 rfl (by decide) HO.out (tk, dk) (A1 := A') (n1 := 32) (c1 := c') rfl hrd (by simp [encFld, Value.oneCell']) hB hoff (by unfold maxLen; omega) (by omega) RW.out.size; refine take_one (i := 18) (by kernel_rfl) ?_; refine op_do (d := (some 76)) (v := .slice A9 (k1 + 1) c9) (w2 := w9) rfl rfl rfl ?_ ⟨trivial, ?_⟩
    · simp [execOp, resolve, invoke, builtin, Act.eval, hrun, Result.andThen]
    try simp only [qp, qn]
    have ne1 := own_ne' HO.out BX.out (by decide); have ne2 := own_ne' HO.out BR.out (by decide); have ne3 := own_ne' HO.out BO.out (by decide); have BX := qq (BX.out.grown hg9 ne1.symm); have BR := qq (BR.out.grown hg9 ne2.symm); have BO := qq (BO.out.grown hg9 ne3.symm); have RW := qq (RW.out.trans hb9); have HO9 := qq ho9; clear HO hrun ho9 hrd hB hoff hF hbb hw hz hb0; refine take_do (j := 19) (d := (some 77)) (v := .pointer (some ⟨o_, 0, none⟩)) (w2 := w9) rfl rfl (by kernel_rfl) rfl (Or.inl (by go_simp; try with_reducible rfl)) trivial ?_; try simp only [qp, qn]
    have bO := BO.out.cell 0; have bf := BO.out.frozen 0; refine take_store_at (j := 20) (w2 := w9.setCell ⟨o_, 0, none⟩ (.slice A9 (k1 + 1) c9)) rfl rfl (by kernel_rfl) rfl ?hst trivial ?_
    case hst => go_simp; try with_reducible rfl
    have G5 : w9.grownBy (w9.setCell ⟨o_, 0, none⟩ (.slice A9 (k1 + 1) c9)) (some o_) := grown_put (World.grownBy.refl _ _) 0 _; have HO5 := qq (HO9.out.keptB BO.out (by decide) rfl G5); have BO5 := qq (BO.out.put 0 (.slice A9 (k1 + 1) c9)); have BX := qq (BX.out.grown G5 (by intro e; injection e with e; omega)); have BR := qq (BR.out.grown G5 (by intro e; injection e with e; omega)); have RW := qq (RW.out.grown G5 RW.out.size (fun k hk => by cases hk; exact wo)); obtain ⟨w5, hw5⟩ : ∃ w5, w9.setCell ⟨o_, 0, none⟩ (.slice A9 (k1 + 1) c9) = w5 := ⟨_, rfl⟩; rw [hw5] at HO5 BO5 BX BR RW ⊢; clear hw5 G5 bO bf hg9 hb9 BO HO9; have HTake : Hid ([((id1 : Int), nextK key)] ++ ks.take k ++ [(tk, dk)] = [((id1 : Int), nextK key)] ++ ks.take k1) := by
     have hkl : k < ks.length := by rw [HLn.out]; exact hk
     have e : ks[k]'hkl = (tk, dk) := by
      rw [<- HTK.out, <- HDK.out]; unfold fldT fldD; simp [List.getD, hkl]
     unfold Hid; rw [<- hk1, List.take_succ_eq_append_getElem hkl, e, List.append_assoc]
    rw [HTake.out] at HO5; refine wpAnyH_done (by kernel_rfl) ?_ _; go_wp2
    go_roundw
    case rel => exact ⟨k1, A9, c9, rfl, qq (by omega), BX, BR, BO5, HO5, RW.out⟩
    case measure => simp; omega
  · have ek : k = n := Nat.le_antisymm (show k <= n from HKn.out) (Nat.le_of_not_lt hk); subst ek; have hfl := HO.out.flds; rw [List.take_of_length_le (by rw [HLn.out]; exact Nat.le_refl _)] at hfl; have kcO := BO.out.cell 0; have ne2 := own_ne' HO.out BR.out (by decide); clear hfl
    go_wp2_with (refine wpList_store_part rfl 25 _ _ rfl r_ 0 25 [] [.slice none 0 0] [] [.slice Ao (k + 1) co] rfl rfl BR.out rfl rfl infoRing (by simp [Value.oneCell']) ?_; intro y8 D8 G8; rw [List.append_nil, List.nil_append] at D8)
    refine bodyPost_ret (results_whole2 rfl _ _ r_ _ _ _ _ rfl rfl D8 Tryz.underlying25 rfl infoRing) rfl ⟨_, rfl, ⟨Ao, k + 1, co, rfl, ?_⟩, RW.out.grown G8 RW.out.size (fun k hk => by cases hk; exact wr_)⟩; have h := (HO.out.keptB BR.out (by decide) rfl G8).flds; rw [List.take_of_length_le (by rw [HLn.out]; exact Nat.le_refl _)] at h; exact h
def cooR (id : Nat) (key up dn : List UInt8) (ns : List (List UInt8)) : List RecT := ns.map fun x => (false, 5, cookB id key x 15 up dn)
def agrR (p : Nat) (ck : List RecT) : List RecT := [(true, 1, putL p 2), (true, 4, putL 15 2)] ++ ck
theorem ItemsV.bad {α : Type} {sz : Nat} {enc : α -> Option Addr -> Nat -> Nat -> List Value} {dat : α -> List UInt8} {w : World} {vs : List Value} {xs : List α} {g : Nat} (h : ItemsV sz enc dat w none vs xs) (hg : w.heap.size <= g) : ItemsV sz enc dat w (some g) vs xs :=
 ⟨h.1, fun i x hx => by obtain ⟨A, n, c, h1, h2, _⟩ := h.2 i x hx; exact ⟨A, n, c, h1, h2, Off.old h2 (fun k hk => by cases hk; exact hg)⟩⟩
theorem own_two {w : World} {B A1 n1 c1 A2 n2 c2} {r1 r2 : RecT} (h1 : Bytes w A1 n1 c1 r1.2.2) (h2 : Bytes w A2 n2 c2 r2.2.2) (hB : B <= w.heap.size) : OwnItems 3 encRec datRec 132 (w.alloc (.cells #[.bool r1.1, .int .i64 r1.2.1, .slice A1 n1 c1, .bool r2.1, .int .i64 r2.2.1, .slice A2 n2 c2] 132)) B (some ⟨w.heap.size, 0, none⟩) 2 2 [r1, r2] := by
 have h := ((ItemsV.nil (sz := 3) (enc := encRec) (dat := datRec) w none).snoc r1 A1 n1 c1 rfl h1 Off.none).snoc r2 A2 n2 c2 rfl h2 Off.none; refine ⟨[.bool r1.1, .int .i64 r1.2.1, .slice A1 n1 c1, .bool r2.1, .int .i64 r2.2.1, .slice A2 n2 c2], ⟨rfl, .inr ⟨w.heap.size, 2, _, rfl, hB, heap_alloc_new _ _, Nat.le_refl _, by decide, rfl, rfl⟩⟩, ?_⟩; exact (h.bad (Nat.le_refl _)).stays (below_alloc1 _ _)
theorem append_items_at {α : Type} {sz : Nat} {enc : α -> Option Addr -> Nat -> Nat -> List Value} {dat : α -> List UInt8} {e : TypeId} {w : World} {B n c : Nat} {A : Option Addr} {xs : List α} {P : Program} {ops : Array Oper} {rest : List Oper} {o : Oper} {a : Act} {Q : Exit -> Act -> World -> Prop} (hgd : o.guard = none) (s y : Operand) (t : TypeId)
    (hop : o.op = .call { callee := .builtin .append, args := #[s, y], argTypes := #[t, t] })
    (i : TypeInfo) (z : Value) (bytes : Nat) (ht : P.underlying t = some (.slice e)) (hi : P.info? e = some i) (hz : i.zero = some z)
    (hsize : i.size = sz) (hby : i.bytes = bytes) (hzs : z.cells.size = sz) (hsz : 0 < sz)
    (hs : a.eval s = .slice A n c) (hown : OwnItems sz enc dat e w B A n c xs) {A1 A2 : Option Addr} {n1 c1 c2 : Nat} (hy : a.eval y = .slice A2 1 c2) (x : α) (hl : (enc x A1 n1 c1).length = sz) (hr : Rd w sz A2 1 c2 (enc x A1 n1 c1)) (h1 : ∀ u ∈ enc x A1 n1 c1, u.oneCell' = true)
    (hb : Bytes w A1 n1 c1 (dat x)) (ho : Off A1 n1 (Value.slice A n c).ownBlock)
    (h63 : n + 1 <= maxLen) (hbytes : (n + 1) * bytes <= 140737488355328) (hbase : B <= w.heap.size)
    (h : ∀ A' c' w', OwnItems sz enc dat e w' B A' (n + 1) c' (xs ++ [x]) -> w.grownBy w' (Value.slice A n c).ownBlock -> ((Value.slice A' (n + 1) c').ownBlock = (Value.slice A n c).ownBlock ∨ (Value.slice A' (n + 1) c').ownBlock = some w.heap.size) ->
     wpList P ops Q rest (a.put o.dst (.slice A' (n + 1) c')) w') : wpList P ops Q (o :: rest) a w := by
 obtain ⟨vs, hw, hv⟩ := hown; obtain ⟨A', c', w', hrun, h2, h3, h4⟩ := run_append_rd (P := P) t o.type i z bytes ht hi hz hsize hby hzs hsz hw hr h1 h63 hbytes hbase; refine Lib.wpList_append_run w hgd s y t t hop _ _ hs hy _ _ hrun (h A' c' w' ⟨_, h2, (hv.grew h3 h4).snoc x A1 n1 c1 hl (hb.kept h3 ho) ?_⟩ h3 h4); intro a ha hn; rcases h4 with h4 | h4
 · rw [h4]; exact ho a ha hn
 · rw [h4]; intro e'; injection e' with e'
   have := hb.lt hn a ha; omega
theorem Off.moved {w : World} {A : Option Addr} {n c : Nat} {l : List UInt8} {b1 b2 : Option Nat} (h : Bytes w A n c l) (ho : Off A n b1) (hl : b2 = b1 ∨ b2 = some w.heap.size) : Off A n b2 := by
 rcases hl with e | e
 · rw [e]; exact ho
 · rw [e]; exact Off.old h (fun k hk => by cases hk; exact Nat.le_refl _)
theorem agreement_any (P1 P2 : Option Addr) (p1 p2 p : Nat) (rg : Value) (ks : List (Int × List UInt8)) (id : Nat) (key : List UInt8) (rest : List (Int × List UInt8)) (ch : Value) (cl : Bool) (s : List UInt8) (sa sb : Nat) (hsa : sa <= 1) (hsb : sb <= 1) (m : Value) (An : Option Addr) (nn cn : Nat) (ns : List (List UInt8)) (w : World)
    (h1 : IntsL w P1 1 p1 [p]) (h2 : IntsL w P2 1 p2 [15]) (hp : p <= 65535) (hr : RingV w rg ks) (hg : RingG ks) (he : ks = ((id : Int), key) :: rest) (hc : Chan w ch cl s sa sb) (hm : MsgV w m (reqR p 15)) (hn : Lists w An nn cn ns) (hnn : nn <= 8) (h16 : ∀ i, i < nn -> (listAt ns i).length = 16) :
    Calls Tryz.prog 77 #[.agg #[.slice P1 1 p1, .slice P2 1 p2, .string ⟨#[]⟩, .int .i64 0], rg, ch, m, .slice An nn cn] w fun e w' => ∃ A' c', e = .returned (.slice A' (2 + nn) c') ∧ OwnItems 3 encRec datRec 132 w' w.heap.size A' (2 + nn) c' (agrR p (cooR id key (keyP s p 15 0) (keyP s p 15 1) ns)) ∧ Below w.heap.size w w' := by
 obtain ⟨i0, hi, hz0, hz1, hz2⟩ := info_parts infoRec3; have hr' := hr; obtain ⟨AR, nR, cR, rfl, _⟩ := hr'; have hc' := hc; obtain ⟨A1, c1, A2, c2, A3, c3, rfl, _, _, _⟩ := hc'; have hm' := hm; obtain ⟨AM, cM, bM, _, _, em, _, _, _⟩ := hm'; have em : m = .agg #[.slice AM 3 cM, .map (some bM)] := em; subst em; have HP1 := qq h1; have HP2 := qq h2; have HR := qq hr; have HG := qq hg; have HE := qq he; have HC := qq hc; have HM := qq hm; have HN := qq hn; have H16 := qq h16; have HN0 := HN; have HR0 := HR; have hcn := hn.cap; have hnl := hn.le; clear h1 h2 hr hg he hc hm hn h16
 go_enter Tryz.func77, Tryz.ntmps77
 go_upto_region 1 with fail
 obtain ⟨wz, b_, g_, x_, m_, ewz, eb_, eg_, ex_, em_⟩ : ∃ wz b_ g_ x_ m_, wz = (((w.alloc (.cells #[.slice P1 1 p1, .slice P2 1 p2, .string ⟨#[]⟩, .int .i64 0] 84)).alloc (.cells #[.slice AR nR cR] 25)).alloc (.cells #[.bool cl, .slice A1 32 c1, .slice A2 32 c2, .slice A3 32 c3, .int .i64 (sa : Int), .int .i64 (sb : Int)] 60)).alloc (.cells #[.slice AM 3 cM, .map (some bM)] 142) ∧ b_ = w.heap.size ∧ g_ = w.heap.size + 1 ∧ x_ = w.heap.size + 1 + 1 ∧ m_ = w.heap.size + 1 + 1 + 1 := ⟨_, _, _, _, _, rfl, rfl, rfl, rfl, rfl⟩; have hb : Below w.heap.size w wz := by rw [ewz]; exact below_alloc4 _ _ _ _ _
 have BP := qq (show Blk wz b_ 84 #[.slice P1 1 p1, .slice P2 1 p2, .string ⟨#[]⟩, .int .i64 0] by rw [ewz, eb_]; exact blk_new4_0 _ _ _ _ _ _ _ _ _); have BG := qq (show Blk wz g_ 25 #[.slice AR nR cR] by rw [ewz, eg_]; exact blk_new4_1 _ _ _ _ _ _ _ _ _); have BX := qq (show Blk wz x_ 60 #[.bool cl, .slice A1 32 c1, .slice A2 32 c2, .slice A3 32 c3, .int .i64 (sa : Int), .int .i64 (sb : Int)] by rw [ewz, ex_]; exact blk_new4_2 _ _ _ _ _ _ _ _ _); have BM := qq (show Blk wz m_ 142 #[.slice AM 3 cM, .map (some bM)] by rw [ewz, em_]; exact blk_new4_3 _ _ _ _ _ _ _ _ _); rw [<- ewz, <- em_, <- ex_, <- eg_, <- eb_]; have HP1 := qs HP1 hb; have HP2 := qs HP2 hb; have HR := qs HR hb; have HC := qs HC hb; have HM := qs HM hb; have HN := qs HN hb; have RW := qq hb; clear hb ewz eb_ eg_ ex_ em_; have kp0 := BP.out.cell 0
 go_wp2_with fail
 refine (chosen_any AM cM bM m_ (reqR p 15) 1 p P1 p1 _ HM.out BM.out (by decide) rfl rfl (be64_p2 p hp) hp HP1.out).mono ?_; rintro e y1 ⟨R1, d1, rfl, hR1, hb⟩; have BP := qs BP hb; have BG := qs BG hb; have BX := qs BX hb; have BM := qs BM hb; have HP1 := qs HP1 hb; have HP2 := qs HP2 hb; have HR := qs HR hb; have HC := qs HC hb; have HM := qs HM hb; have HN := qs HN hb; have RW := qt RW hb; have HB1 := qq hR1; clear hb hR1 kp0
 go_upto_region 3 with (refine wpList_store_part rfl 132 _ _ rfl y1.heap.size 0 132 [] [.bool false, .int .i64 0, .slice none 0 0] [] [.bool true, .int .i64 1, .slice R1 2 d1] rfl rfl (Blk.new _ _ _) rfl rfl infoRec (by simp [Value.oneCell']) ?_; intro y2 D G; have G := below_new_store G; rw [List.append_nil, List.nil_append] at D)
 obtain ⟨o1, eo⟩ : ∃ o1, o1 = y1.heap.size := ⟨_, rfl⟩; rw [<- eo] at D ⊢; have BO1 := qq D

 have BP := qs BP G; have BG := qs BG G; have BX := qs BX G; have BM := qs BM G; have HP1 := qs HP1 G; have HP2 := qs HP2 G; have HR := qs HR G; have HC := qs HC G; have HM := qs HM G; have HN := qs HN G; have HB1 := qs HB1 G; have RW := qt RW G; clear D G eo; have kp1 := BP.out.cell 1
 go_wp2_with fail
 refine (chosen_any AM cM bM m_ (reqR p 15) 4 15 P2 p2 _ HM.out BM.out (by decide) rfl rfl rfl (by decide) HP2.out).mono ?_; rintro e y3 ⟨R2, d2, rfl, hR2, hb⟩; have BP := qs BP hb; have BG := qs BG hb; have BX := qs BX hb; have BM := qs BM hb; have HP1 := qs HP1 hb; have HP2 := qs HP2 hb; have HR := qs HR hb; have HC := qs HC hb; have HM := qs HM hb; have HN := qs HN hb; have HB1 := qs HB1 hb; have BO1 := qs BO1 hb; have RW := qt RW hb; have HB2 := qq hR2; clear hb hR2 kp1
 go_upto_region 6 with (refine wpList_store_part rfl 132 _ _ rfl y3.heap.size 0 132 [] [.bool false, .int .i64 0, .slice none 0 0] [] [.bool true, .int .i64 4, .slice R2 2 d2] rfl rfl (Blk.new _ _ _) rfl rfl infoRec (by simp [Value.oneCell']) ?_; intro y4 D G; have G := below_new_store G; rw [List.append_nil, List.nil_append] at D)
 obtain ⟨o2, eo⟩ : ∃ o2, o2 = y3.heap.size := ⟨_, rfl⟩; rw [<- eo] at D ⊢; have BO2 := qq D

 have BP := qs BP G; have BG := qs BG G; have BX := qs BX G; have BM := qs BM G; have HP1 := qs HP1 G; have HP2 := qs HP2 G; have HR := qs HR G; have HC := qs HC G; have HM := qs HM G; have HN := qs HN G; have HB1 := qs HB1 G; have BO1 := qs BO1 G; have HB2 := qs HB2 G; have RW := qt RW G; clear D G eo
 go_upto_region 7 with (first | (refine wpList_load_part rfl 132 _ rfl o1 0 132 [] [.bool true, .int .i64 1, .slice R1 2 d1] [] _ rfl BO1.out rfl Tryz.underlying132 rfl infoRec ?_) | (refine wpList_load_part rfl 132 _ rfl o2 0 132 [] [.bool true, .int .i64 4, .slice R2 2 d2] [] _ rfl BO2.out rfl Tryz.underlying132 rfl infoRec ?_))
 obtain ⟨y5, ey5⟩ : ∃ y5, y5 = y4.alloc (.cells #[.bool true, .int .i64 1, .slice R1 2 d1, .bool true, .int .i64 4, .slice R2 2 d2] 132) := ⟨_, rfl⟩; obtain ⟨g0, eg0⟩ : ∃ g0, g0 = y4.heap.size := ⟨_, rfl⟩; have hb : Below y4.heap.size y4 y5 := by rw [ey5]; exact below_alloc1 _ _
 have HOW : Hid (OwnItems 3 encRec datRec 132 y5 w.heap.size (some ⟨g0, 0, none⟩) 2 2 (agrR p [])) := by
  rw [ey5, eg0]; exact own_two (r1 := (true, 1, putL p 2)) (r2 := (true, 4, putL 15 2)) HB1.out HB2.out RW.out.size
 have B5 := qq (show Blk y5 g0 132 #[.bool true, .int .i64 1, .slice R1 2 d1, .bool true, .int .i64 4, .slice R2 2 d2] by rw [ey5, eg0]; exact Blk.new _ _ _); rw [<- ey5, <- eg0]; have BP := qs BP hb; have BG := qs BG hb; have BX := qs BX hb; have BM := qs BM hb; have HP1 := qs HP1 hb; have HP2 := qs HP2 hb; have HR := qs HR hb; have HC := qs HC hb; have HM := qs HM hb; have HN := qs HN hb; have RW := qt RW hb; clear hb ey5 eg0 BO1 BO2 HB1 HB2
 go_wp2_with (refine wpList_load_part rfl 60 _ rfl x_ 0 60 [] [.bool cl, .slice A1 32 c1, .slice A2 32 c2, .slice A3 32 c3, .int .i64 (sa : Int), .int .i64 (sb : Int)] [] _ rfl BX.out rfl Tryz.underlying60 rfl infoCh ?_)
 refine (keys_any _ cl s sa sb hsa hsb p 15 hp (by decide) _ HC.out).mono ?_; rintro e y6 ⟨K1, K2, rfl, hk1, hk2, hb⟩; have BP := qs BP hb; have BG := qs BG hb; have BX := qs BX hb; have BM := qs BM hb; have HP1 := qs HP1 hb; have HP2 := qs HP2 hb; have HR := qs HR hb; have HC := qs HC hb; have HM := qs HM hb; have HN := qs HN hb; have HOW := qs HOW hb; have B5 := qs B5 hb; have RW := qt RW hb; have HK1 := qq hk1; have HK2 := qq hk2; clear hb hk1 hk2
 go_upto_region 10 with (refine wpList_store_part rfl 29 _ _ rfl y6.heap.size 0 29 [] [.slice none 0 0, .slice none 0 0] [] [.slice K1 32 32, .slice K2 32 32] rfl rfl (Blk.new _ _ _) rfl rfl infoPr (by simp [Value.oneCell']) ?_; intro y7 D G; have G := below_new_store G; rw [List.append_nil, List.nil_append] at D)
 obtain ⟨q_, eo⟩ : ∃ q_, q_ = y6.heap.size := ⟨_, rfl⟩; rw [<- eo] at D ⊢; have BK := qq D

 have BP := qs BP G; have BG := qs BG G; have BX := qs BX G; have BM := qs BM G; have HP1 := qs HP1 G; have HP2 := qs HP2 G; have HR := qs HR G; have HC := qs HC G; have HM := qs HM G; have HN := qs HN G; have HOW := qs HOW G; have HK1 := qs HK1 G; have HK2 := qs HK2 G; have B5 := qs B5 G; have RW := qt RW G; clear D G eo; obtain ⟨up, eup⟩ : ∃ up, keyP s p 15 0 = up := ⟨_, rfl⟩; obtain ⟨dn, edn⟩ : ∃ dn, keyP s p 15 1 = dn := ⟨_, rfl⟩; rw [eup] at HK1; rw [edn] at HK2; have HEU := qq eup; have HED := qq edn; have HOF1 := qq (off_block HK1.out B5.out rfl); have HOF2 := qq (off_block HK2.out B5.out rfl); clear eup edn B5; go_wp2
 go_loopw [17, 60] (fun t i wr => ∃ (k co : Nat) (AO : Option Addr), k <= nn ∧ i = .int .i64 k ∧ t = .slice AO (2 + k) co ∧ Hid (OwnItems 3 encRec datRec 132 wr w.heap.size AO (2 + k) co (agrR p (cooR id key up dn (ns.take k)))) ∧
     Hid (Off K1 32 (Value.slice AO (2 + k) co).ownBlock) ∧ Hid (Off K2 32 (Value.slice AO (2 + k) co).ownBlock) ∧ Hid (Blk wr g_ 25 #[.slice AR nR cR]) ∧ Hid (Blk wr q_ 29 #[.slice K1 32 32, .slice K2 32 32]) ∧ Hid (Bytes wr K1 32 32 up) ∧ Hid (Bytes wr K2 32 32 dn) ∧ Below w.heap.size w wr) (fun _ i _ => nn - (intOf i).toNat)
 case atStart => exact ⟨0, 2, _, Nat.zero_le _, rfl, rfl, HOW.out, HOF1.out, HOF2.out, BG.out, BK.out, HK1.out, HK2.out, RW.out⟩
 case round =>
  clear HOW HOF1 HOF2 BG BK HK1 HK2 RW HR HN HP1 HP2 HC HM BP BX BM; obtain ⟨k, co, AO, hk, rfl, rfl, HOW, HOF1, HOF2, BG, BK, HK1, HK2, hbr⟩ := hrel; have RW := qq hbr
  by_cases hkn : k < nn
  · have hki : (k : Int) < (nn : Int) := by omega
    obtain ⟨bb, off, Ab, nb, cb, rfl, hc0, hy⟩ := (HN0.out.stays hbr).at_ hkn; have h16 := H16.out k hkn; obtain rfl : nb = 16 := by rw [<- hy.len]; exact h16
    have HY := qq hy; have HRr := qs HR0 hbr; clear hy h16 hbr
    go_wp2_with (first | (refine wpList_load_part rfl 25 _ rfl g_ 0 25 [] [.slice AR nR cR] [] _ rfl BG.out rfl Tryz.underlying25 rfl infoRing ?_) | (refine wpList_load_part rfl 29 _ rfl q_ 0 29 [] [.slice K1 32 32, .slice K2 32 32] [] _ rfl BK.out rfl Tryz.underlying29 rfl infoPr ?_))
    refine (ckMake_any _ ks id key rest HE.out K1 32 up K2 32 dn Ab cb _ _ HRr.out HG.out HK1.out HK2.out HY.out).mono ?_; rintro e z1 ⟨C1, e1, rfl, hC1, hF1, hb1⟩; have HC1 := qq hC1; have HF1 := qq hF1; have HOLT : Hid (∀ j, (Value.slice AO (2 + k) co).ownBlock = some j -> j < wr.heap.size) := HOW.out.lt; have hx := hb1.trans ((below_alloc1 z1 (.cells #[.bool false, .int .i64 5, .slice C1 104 e1] 132)).mono hb1.size); have HOW := qs HOW hx; have BG := qs BG hx; have BK := qs BK hx; have HK1 := qs HK1 hx; have HK2 := qs HK2 hx; have RW := qt RW hx; have hk9 := HOW.out.cap; have hbz := RW.out.size; clear hC1 hF1 hb1 hx hc0
    go_wp2_with (at_builtin; refine append_items_at rfl _ _ 133 rfl i0 _ 40 Tryz.underlying133 hi hz0 hz1 hz2 rfl (by decide) rfl HOW.out rfl ((false, 5, cookB id key (listAt ns k) 15 up dn) : RecT) rfl (rd_three _ _ _ _ _) (by simp [encRec, Value.oneCell']) (HC1.out.stays ((Below.refl _ _).alloc (Nat.le_refl _) _)) (Off.fresh HF1.out HOLT.out) (by unfold maxLen; omega) (by omega) hbz ?_; intro A8 c8 w8 hown8 hg8 hl8; have HG8 := qq hg8; have HO8 := qq hown8; have HL8 := qq hl8; clear hg8 hl8 hown8)
    have ne1 := own_ne' HOW.out BG.out (by decide); have ne2 := own_ne' HOW.out BK.out (by decide); have BG9 := qq (BG.out.grown HG8.out ne1.symm); have BK9 := qq (BK.out.grown HG8.out ne2.symm); have HK19 := qq (HK1.out.kept HG8.out HOF1.out); have HK29 := qq (HK2.out.kept HG8.out HOF2.out); have HOF19 := qq (Off.moved HK1.out HOF1.out HL8.out); have HOF29 := qq (Off.moved HK2.out HOF2.out HL8.out); have RW9 := qq (RW.out.grown HG8.out RW.out.size HOW.out.old); have HOW9 : Hid (OwnItems 3 encRec datRec 132 w8 w.heap.size A8 (2 + k + 1) c8 (agrR p (cooR id key up dn (ns.take (k + 1))))) := by
     have hl : k < ns.length := by rw [HN0.out.len]; exact hkn
     have e1 : agrR p (cooR id key up dn (ns.take (k + 1))) = agrR p (cooR id key up dn (ns.take k)) ++ [(false, 5, cookB id key (listAt ns k) 15 up dn)] := by
      unfold agrR cooR; rw [List.take_succ_eq_append_getElem hl, List.map_append, listAt_get hl, List.append_assoc]
      rfl
     rw [Hid, e1]; exact HO8.out
    clear ne1 ne2 HG8 HO8 HL8; go_wp2
    go_roundw
    case rel => exact ⟨k + 1, c8, A8, by omega, by go_num, rfl, HOW9.out, HOF19.out, HOF29.out, BG9.out, BK9.out, HK19.out, HK29.out, RW9.out⟩
    case measure => simp [intOf]; omega
  · obtain rfl : k = nn := by omega
    clear hkn; go_wp2; go_ret; have h9 := HOW.out; rw [List.take_of_length_le (by rw [HN0.out.len]; exact Nat.le_refl _)] at h9; rw [HEU.out, HED.out]; exact ⟨AO, co, rfl, h9, hbr⟩
theorem code1_any (A : Option Addr) (n c : Nat) (l : List UInt8) (w : World) (h : Bytes w A n c l) : Calls Tryz.prog 120 #[.slice A n c] w fun e w' => e = .returned (.bool (decide (l.length ≠ 16))) ∧ Below w.heap.size w w' := by
 rw [h.len]; clear h
 go_enter Tryz.func120, Tryz.ntmps120
 go_wp2; go_ret; refine ⟨?_, Below.refl _ _⟩
 by_cases h16 : n = 16
 · subst h16; rfl
 · have h2 : ¬ (n : Int) = 16 := by omega
   simp [h16, h2]
theorem code_ok (P1 P2 : Option Addr) (p1 p2 p : Nat) (m : Value) (An : Option Addr) (nn cn : Nat) (ns : List (List UInt8)) (w : World) (hm : MsgV w m (reqR p 15)) (hn : Lists w An nn cn ns) (hn1 : 1 <= nn) (hnn : nn <= 8) (h16 : ∀ i, i < nn -> (listAt ns i).length = 16) :
    Calls Tryz.prog 76 #[.agg #[.slice P1 1 p1, .slice P2 1 p2, .string ⟨#[]⟩, .int .i64 0], m, .bool true, .slice An nn cn] w fun e w' => e = .returned (.tuple #[.int .i64 0, .bool false]) ∧ Below w.heap.size w w' := by
 have hm' := hm; obtain ⟨AM, cM, bM, _, _, em, _, _, _⟩ := hm'; have em : m = .agg #[.slice AM 3 cM, .map (some bM)] := em; subst em; have HM := qq hm; have HN := qq hn; have hcn := hn.cap; have hnl := hn.le; have HAN : Hid (ns.any (fun l => decide (l.length ≠ 16)) = false) := by
  rw [Hid, List.any_eq_false]; intro l hl; obtain ⟨i, hi, rfl⟩ := List.mem_iff_getElem.1 hl; have h9 := h16 i (by rw [<- hn.len]; exact hi); rw [listAt_get hi] at h9; simp [h9]
 clear hm hn h16; have n1 : ¬ (nn : Int) < 1 := by omega
 have n8 : ¬ (8 : Int) < (nn : Int) := by omega
 go_enter Tryz.func76, Tryz.ntmps76
 go_upto_region 1 with fail
 obtain ⟨wz, b_, m_, ewz, eb_, em_⟩ : ∃ wz b_ m_, wz = (w.alloc (.cells #[.slice P1 1 p1, .slice P2 1 p2, .string ⟨#[]⟩, .int .i64 0] 84)).alloc (.cells #[.slice AM 3 cM, .map (some bM)] 142) ∧ b_ = w.heap.size ∧ m_ = w.heap.size + 1 := ⟨_, _, _, rfl, rfl, rfl⟩; have hb : Below w.heap.size w wz := by rw [ewz]; exact below_alloc2 _ _ _
 have BP := qq (show Blk wz b_ 84 #[.slice P1 1 p1, .slice P2 1 p2, .string ⟨#[]⟩, .int .i64 0] by rw [ewz, eb_]; exact blk_new2_0 _ _ _ _ _); have BM := qq (show Blk wz m_ 142 #[.slice AM 3 cM, .map (some bM)] by rw [ewz, em_]; exact blk_new2_1 _ _ _ _ _); rw [<- ewz, <- em_, <- eb_]; have HM := qs HM hb; have HN := qs HN hb; have RW := qq hb; clear hb ewz eb_ em_; have cm0 := BM.out.cell 0; have cm1 := BM.out.cell 1
 go_wp2_with fail
 refine (has_any _ (reqR p 15) 1 _ HM.out (by decide)).mono ?_; rintro e y1 ⟨rfl, hb⟩; have BP := qs BP hb; have BM := qs BM hb; have HM := qs HM hb; have HN := qs HN hb; have RW := qt RW hb; clear hb cm0 cm1; rw [show decide (0 < (kindL (reqR p 15) ((1 : Nat) : Int)).length) = true from rfl]; have cm0 := BM.out.cell 0; have cm1 := BM.out.cell 1
 go_wp2_with fail
 refine (has_any _ (reqR p 15) 4 _ HM.out (by decide)).mono ?_; rintro e y2 ⟨rfl, hb⟩; have BP := qs BP hb; have BM := qs BM hb; have HM := qs HM hb; have HN := qs HN hb; have RW := qt RW hb; clear hb cm0 cm1; rw [show decide (0 < (kindL (reqR p 15) ((4 : Nat) : Int)).length) = true from rfl]; have cm0 := BM.out.cell 0; have cm1 := BM.out.cell 1
 go_wp2_with fail
 refine (has_any _ (reqR p 15) 2 _ HM.out (by decide)).mono ?_; rintro e y3 ⟨rfl, hb⟩; have BP := qs BP hb; have BM := qs BM hb; have HM := qs HM hb; have HN := qs HN hb; have RW := qt RW hb; clear hb cm0 cm1; rw [show decide (0 < (kindL (reqR p 15) ((2 : Nat) : Int)).length) = false from rfl]; have cm0 := BM.out.cell 0; have cm1 := BM.out.cell 1
 go_wp2_with fail
 refine (has_any _ (reqR p 15) 3 _ HM.out (by decide)).mono ?_; rintro e y4 ⟨rfl, hb⟩; have BP := qs BP hb; have BM := qs BM hb; have HM := qs HM hb; have HN := qs HN hb; have RW := qt RW hb; clear hb cm0 cm1; rw [show decide (0 < (kindL (reqR p 15) ((3 : Nat) : Int)).length) = false from rfl]; have cm0 := BM.out.cell 0; have cm1 := BM.out.cell 1
 go_wp2_with fail
 refine (has_any _ (reqR p 15) 5 _ HM.out (by decide)).mono ?_; rintro e y5 ⟨rfl, hb⟩; have BP := qs BP hb; have BM := qs BM hb; have HM := qs HM hb; have HN := qs HN hb; have RW := qt RW hb; clear hb cm0 cm1; rw [show decide (0 < (kindL (reqR p 15) ((5 : Nat) : Int)).length) = false from rfl]

 go_wp2_with (refine wpList_load_part rfl 142 _ rfl m_ 0 142 [] [.slice AM 3 cM, .map (some bM)] [] _ rfl BM.out rfl Tryz.underlying142 rfl infoMsg ?_)
 refine (strange_no _ (reqR p 15) _ HM.out (fun i hi => by obtain ⟨t, e1, e2⟩ := (reqR_ok p 15).ty i hi; rw [e1]; omega)).mono ?_; rintro e y6 ⟨rfl, hb⟩; have BP := qs BP hb; have HN := qs HN hb; have RW := qt RW hb; clear hb; have cp2 := BP.out.cell 2; have HH := qq (hasL_code1 (fun l => decide (l.length ≠ 16)) An nn cn ns _ HN.out (fun W A n c l _ hl => code1_any A n c l W hl))
 go_wp2_with fail
 refine HH.out.mono ?_; rintro e y7 ⟨rfl, hb⟩; have RW := qt RW hb; rw [HAN.out]; clear hb HH cp2; go_wp2
 go_returns
 exact ⟨rfl, RW.out⟩
theorem rspClo (x : Nat) (w : World) (hx : x <= 65535) : Calls Tryz.prog 74 #[.int .i64 x] w fun e w' => e = .returned (.bool false) ∧ Below w.heap.size w w' := by
 have HN := qq (number_any x (by omega) (by omega) w)
 go_enter Tryz.func74, Tryz.ntmps74
 go_wp2_with fail
 refine HN.out.mono ?_; rintro e y ⟨rfl, rfl⟩; go_wp2; go_ret; exact ⟨rfl, Below.refl _ _⟩
theorem infoPol : (Tryz.prog.info? 84).map (·.size) = some 4 := by kernel_rfl
theorem rspIdx_no (A : Option Addr) (n c : Nat) (rs : List Nat) (w : World) (hv : IntsL w A n c rs) (hp : ∀ i, i < rs.length -> rs.getD i 0 <= 65535) : Calls Tryz.prog 116 #[.slice A n c, .func (.func 74) #[] #[]] w fun e w' => e = .returned (.int .i64 (-1)) ∧ Below w.heap.size w w' := by
 have HV := qq hv; have HL := qq hv.len; have HP := qq hp; have cle : n <= c := hv.2.1; have ccap : c <= 9223372036854775807 := (by have := hv.2.2.1; unfold maxLen at this; omega); clear hv hp
 go_enter Tryz.func116, Tryz.ntmps116
 go_wp2
 go_loopw [8] (fun s wr => ∃ (j : Nat), s = .int .i64 j ∧ j <= n ∧ Below w.heap.size w wr) (fun s _ => n - (intOf s).toNat)
 case atStart => exact ⟨0, rfl, Nat.zero_le _, Below.refl _ _⟩
 case round =>
  obtain ⟨j, rfl, hjn, hb⟩ := hrel; have RW := qq hb
  by_cases hj : j < n
  · have hjI : (j : Int) < (n : Int) := by omega
    obtain ⟨b5, o5, rfl, hc0⟩ := (HV.out.stays hb).at_ hj; have hp := HP.out j (by rw [HL.out]; exact hj); obtain ⟨t, et⟩ : ∃ t, rs.getD j 0 = t := ⟨_, rfl⟩; rw [et] at hc0 hp; clear et; clear hb
    go_wp2_with fail
    refine (rspClo t _ hp).mono ?_; rintro e y ⟨rfl, hb5⟩; have R5 := qt RW hb5; clear hb5; go_wp2
    go_roundw
    case rel => exact ⟨j + 1, by go_num, by omega, R5.out⟩
    case measure => simp [intOf]; omega
  · have ej : j = n := by omega
    subst ej; clear hj hb; go_wp2; go_ret; exact ⟨rfl, RW.out⟩
theorem rspHas_no (A : Option Addr) (n c : Nat) (rs : List Nat) (w : World) (hv : IntsL w A n c rs) (hp : ∀ i, i < rs.length -> rs.getD i 0 <= 65535) : Calls Tryz.prog 73 #[.slice A n c, .func (.func 74) #[] #[]] w fun e w' => e = .returned (.bool false) ∧ Below w.heap.size w w' := by
 have HC := qq (rspIdx_no A n c rs w hv hp); clear hv hp
 go_enter Tryz.func73, Tryz.ntmps73
 go_wp2_with fail
 refine HC.out.mono ?_; rintro e y ⟨rfl, hb⟩; have HB := qq hb; clear hb HC; go_wp2; go_ret; exact ⟨rfl, HB.out⟩
def rspR (p : Nat) (ck : List RecT) : List RecT := agrR p ck ++ [(true, 0, [])]
theorem cookB_length (id : Nat) (key nonce : List UInt8) (a : Nat) (up dn : List UInt8) (hn : nonce.length = 16) (hu : up.length = 32) (hd : dn.length = 32) : (cookB id key nonce a up dn).length = 104 := by
 unfold cookB ckB cookP; simp only [List.length_append, putL_length, sealB_length, hn, hu, hd, List.length_cons, List.length_nil]
theorem respond_any (P1 P2 : Option Addr) (p1 p2 p : Nat) (rg : Value) (ks : List (Int × List UInt8)) (id : Nat) (key : List UInt8) (rest : List (Int × List UInt8)) (ch : Value) (cl : Bool) (s : List UInt8) (sa sb : Nat) (hsa : sa <= 1) (hsb : sb <= 1) (AQ : Option Addr) (nQ cQ : Nat) (An : Option Addr) (nn cn : Nat) (ns : List (List UInt8)) (w : World)
    (h1 : IntsL w P1 1 p1 [p]) (h2 : IntsL w P2 1 p2 [15]) (hp : p <= 65535) (hr : RingV w rg ks) (hg : RingG ks) (he : ks = ((id : Int), key) :: rest) (hc : Chan w ch cl s sa sb) (hq : Bytes w AQ nQ cQ ((reqR p 15).flatMap encR)) (hn : Lists w An nn cn ns) (hn1 : 1 <= nn) (hnn : nn <= 8) (h16 : ∀ i, i < nn -> (listAt ns i).length = 16)
    (hty : ∀ i, i < (rspR p (cooR id key (keyP s p 15 0) (keyP s p 15 1) ns)).length -> ∃ t : Nat, recT (rspR p (cooR id key (keyP s p 15 0) (keyP s p 15 1) ns)) i = (t : Int) ∧ t < 8) (hsz : ((rspR p (cooR id key (keyP s p 15 0) (keyP s p 15 1) ns)).flatMap encR).length <= 65535) :
    Calls Tryz.prog 28 #[.agg #[.slice P1 1 p1, .slice P2 1 p2, .string ⟨#[]⟩, .int .i64 0], rg, ch, .slice AQ nQ cQ, .slice An nn cn] w fun e w' => ∃ A' n' c', e = .returned (.tuple #[.slice A' n' c', .int .i64 0]) ∧ Bytes w' A' n' c' ((rspR p (cooR id key (keyP s p 15 0) (keyP s p 15 1) ns)).flatMap encR) ∧ Below w.heap.size w w' := by
 obtain ⟨i0, hi, hz0, hz1, hz2⟩ := info_parts infoRec3; have hr' := hr; obtain ⟨AR, nR, cR, rfl, _⟩ := hr'; have hc' := hc; obtain ⟨A1, c1, A2, c2, A3, c3, rfl, _, _, _⟩ := hc'; have HP1 := qq h1; have HP2 := qq h2; have HR := qq hr; have HG := qq hg; have HE := qq he; have HC := qq hc; have HQ := qq hq; have HN := qq hn; have H16 := qq h16; have HTY := qq hty; have HSZ := qq hsz; have hnQ : nQ <= 65535 := by rw [<- hq.len, reqB_length]; decide
 clear h1 h2 hr hg he hc hq hn h16 hty hsz
 go_enter Tryz.func28, Tryz.ntmps28
 go_upto_region 1 with fail
 obtain ⟨wz, b_, g_, x_, ewz, eb_, eg_, ex_⟩ : ∃ wz b_ g_ x_, wz = ((w.alloc (.cells #[.slice P1 1 p1, .slice P2 1 p2, .string ⟨#[]⟩, .int .i64 0] 84)).alloc (.cells #[.slice AR nR cR] 25)).alloc (.cells #[.bool cl, .slice A1 32 c1, .slice A2 32 c2, .slice A3 32 c3, .int .i64 (sa : Int), .int .i64 (sb : Int)] 60) ∧ b_ = w.heap.size ∧ g_ = w.heap.size + 1 ∧ x_ = w.heap.size + 1 + 1 := ⟨_, _, _, _, rfl, rfl, rfl, rfl⟩; have hb : Below w.heap.size w wz := by rw [ewz]; exact below_alloc3 _ _ _ _
 have BP := qq (show Blk wz b_ 84 #[.slice P1 1 p1, .slice P2 1 p2, .string ⟨#[]⟩, .int .i64 0] by rw [ewz, eb_]; exact blk_new3_0 _ _ _ _ _ _ _); have BG := qq (show Blk wz g_ 25 #[.slice AR nR cR] by rw [ewz, eg_]; exact blk_new3_1 _ _ _ _ _ _ _); have BX := qq (show Blk wz x_ 60 #[.bool cl, .slice A1 32 c1, .slice A2 32 c2, .slice A3 32 c3, .int .i64 (sa : Int), .int .i64 (sb : Int)] by rw [ewz, ex_]; exact blk_new3_2 _ _ _ _ _ _ _); rw [<- ewz, <- ex_, <- eg_, <- eb_]; have HP1 := qs HP1 hb; have HP2 := qs HP2 hb; have HR := qs HR hb; have HC := qs HC hb; have HN := qs HN hb; have HQ := qs HQ hb; have RW := qq hb; clear hb ewz eb_ eg_ ex_
 go_wp2_with (refine wpList_load_part rfl 60 _ rfl x_ 0 60 [] [.bool cl, .slice A1 32 c1, .slice A2 32 c2, .slice A3 32 c3, .int .i64 (sa : Int), .int .i64 (sb : Int)] [] _ rfl BX.out rfl Tryz.underlying60 rfl infoCh ?_)
 refine (chValid_any _ cl s sa sb hsa hsb _ HC.out).mono ?_; rintro e y1 ⟨rfl, hb⟩; have BP := qs BP hb; have BG := qs BG hb; have BX := qs BX hb; have HP1 := qs HP1 hb; have HP2 := qs HP2 hb; have HR := qs HR hb; have HC := qs HC hb; have HN := qs HN hb; have HQ := qs HQ hb; have RW := qt RW hb; clear hb; have kg0 := BG.out.cell 0
 go_wp2_with fail
 refine (ckValid_any _ ks _ HR.out HG.out).mono ?_; rintro e y2 ⟨rfl, hb⟩; have BP := qs BP hb; have BG := qs BG hb; have BX := qs BX hb; have HP1 := qs HP1 hb; have HP2 := qs HP2 hb; have HR := qs HR hb; have HC := qs HC hb; have HN := qs HN hb; have HQ := qs HQ hb; have RW := qt RW hb; clear hb kg0; have kp0 := BP.out.cell 0; have kp1 := BP.out.cell 1; have kp3 := BP.out.cell 3; obtain ⟨yi, eyi⟩ : ∃ yi, yi = y2.alloc (.cells #[.int .i64 0] 3) := ⟨_, rfl⟩; obtain ⟨yk, eyk⟩ : ∃ yk, yk = yi.alloc (.cells #[.slice P1 1 p1, .slice P2 1 p2, .slice (some ⟨y2.heap.size, 0, none⟩) 1 1] 77) := ⟨_, rfl⟩; have hbi : Below y2.heap.size y2 yi := by rw [eyi]; exact below_alloc1 _ _
 have hbk : Below yi.heap.size yi yk := by rw [eyk]; exact below_alloc1 _ _
 have hI3 : IntsL yi (some ⟨y2.heap.size, 0, none⟩) 1 1 [0] := by rw [eyi]; exact intsNew y2 3 [0] (by simp [maxLen])
 have hRV : RowsV 1 yk (some ⟨yi.heap.size, 0, none⟩) 3 3 [[.int .i64 p], [.int .i64 15], [.int .i64 0]] := by
  refine RowsV.made (vs := [.slice P1 1 p1, .slice P2 1 p2, .slice (some ⟨y2.heap.size, 0, none⟩) 1 1]) (by rw [eyk]; exact Blk.new _ _ _) rfl (by simp [maxLen]) (fun i us hi => ?_)
  match i, hi with
  | 0, hi => simp only [List.getElem?_cons_zero, Option.some.injEq] at hi; subst hi; exact ⟨_, _, _, rfl, (HP1.out.stays hbi).stays hbk, by simp [Value.oneCell']⟩
  | 1, hi => simp only [List.getElem?_cons_succ, List.getElem?_cons_zero, Option.some.injEq] at hi; subst hi; exact ⟨_, _, _, rfl, (HP2.out.stays hbi).stays hbk, by simp [Value.oneCell']⟩
  | 2, hi => simp only [List.getElem?_cons_succ, List.getElem?_cons_zero, Option.some.injEq] at hi; subst hi; exact ⟨_, _, _, rfl, hI3.stays hbk, by simp [Value.oneCell']⟩
 have hyi : yi.heap.size = y2.heap.size + 1 := by rw [eyi]; simp
 have hCT := catI_any _ _ _ _ _ hRV 3 (by simp) (by omega); rw [hyi, eyk, eyi] at hCT; have HCT := qq hCT; have HBK : Hid (Below y2.heap.size y2 ((y2.alloc (.cells #[.int .i64 0] 3)).alloc (.cells #[.slice P1 1 p1, .slice P2 1 p2, .slice (some ⟨y2.heap.size, 0, none⟩) 1 1] 77))) := below_alloc2 _ _ _; clear hCT hyi hRV hI3 hbi hbk eyk eyi
 go_wp2_with fail
 refine HCT.out.mono ?_; rintro e y3 ⟨A9, c9, rfl, hown, hb⟩; have hb := HBK.out.trans (hb.mono HBK.out.size); have HI9 : Hid (IntsL y3 A9 3 c9 [p, 15, 0]) := own_rd hown; have BP := qs BP hb; have BG := qs BG hb; have BX := qs BX hb; have HP1 := qs HP1 hb; have HP2 := qs HP2 hb; have HR := qs HR hb; have HC := qs HC hb; have HN := qs HN hb; have HQ := qs HQ hb; have RW := qt RW hb; have HRS := qq (rspHas_no A9 3 c9 [p, 15, 0] _ HI9.out (fun i hi => by
  have h3 : i < 3 := hi; rcases (by omega : i = 0 ∨ i = 1 ∨ i = 2) with rfl | rfl | rfl
  · exact hp
  · show 15 <= 65535; decide
  · show 0 <= 65535; decide))
 clear hb hown HCT HBK kp0 kp1 kp3
 go_wp2_with fail
 refine HRS.out.mono ?_; rintro e y4 ⟨rfl, hb⟩; have BP := qs BP hb; have BG := qs BG hb; have BX := qs BX hb; have HP1 := qs HP1 hb; have HP2 := qs HP2 hb; have HR := qs HR hb; have HC := qs HC hb; have HN := qs HN hb; have HQ := qs HQ hb; have RW := qt RW hb; clear hb HRS HI9
 go_upto_region 6 with (refine wpList_store_part rfl 132 _ _ rfl y4.heap.size 0 132 [] [.bool false, .int .i64 0, .slice none 0 0] [] [.bool true, .int .i64 0, .slice none 0 0] rfl rfl (Blk.new _ _ _) rfl rfl infoRec (by simp [Value.oneCell']) ?_; intro y5 D G; have G := below_new_store G; rw [List.append_nil, List.nil_append] at D)
 obtain ⟨e_, eo⟩ : ∃ e_, e_ = y4.heap.size := ⟨_, rfl⟩; rw [<- eo] at D ⊢; have BE := qq D

 have BP := qs BP G; have BG := qs BG G; have BX := qs BX G; have HP1 := qs HP1 G; have HP2 := qs HP2 G; have HR := qs HR G; have HC := qs HC G; have HN := qs HN G; have HQ := qs HQ G; have RW := qt RW G; clear D G eo
 go_wp2_with fail
 refine (read_any AQ nQ cQ (reqR p 15) _ HQ.out hnQ (reqR_ok p 15)).mono ?_; rintro e y6 ⟨v, rfl, hM, hb⟩; have hM' := hM; obtain ⟨AM, cM, bM, nM, VM, ev, _, _, _⟩ := hM'; have ev : v = .agg #[.slice AM 3 cM, .map (some bM)] := ev; subst ev; have BP := qs BP hb; have BG := qs BG hb; have BX := qs BX hb; have HP1 := qs HP1 hb; have HP2 := qs HP2 hb; have HR := qs HR hb; have HC := qs HC hb; have HN := qs HN hb; have BE := qs BE hb; have RW := qt RW hb; have HM := qq hM; clear hM hb
 go_upto_region 7 with (refine wpList_store_part rfl 142 _ _ rfl y6.heap.size 0 142 [] [.slice none 0 0, .map none] [] [.slice AM 3 cM, .map (some bM)] rfl rfl (Blk.new _ _ _) rfl rfl infoMsg (by simp [Value.oneCell']) ?_; intro y7 D G; have G := below_new_store G; rw [List.append_nil, List.nil_append] at D)
 obtain ⟨m_, eo⟩ : ∃ m_, m_ = y6.heap.size := ⟨_, rfl⟩; rw [<- eo] at D ⊢; have BM := qq D

 have BP := qs BP G; have BG := qs BG G; have BX := qs BX G; have HP1 := qs HP1 G; have HP2 := qs HP2 G; have HR := qs HR G; have HC := qs HC G; have HN := qs HN G; have BE := qs BE G; have HM := qs HM G; have RW := qt RW G; clear D G eo
 go_wp2_with (first | (refine wpList_load_part rfl 84 _ rfl b_ 0 84 [] [.slice P1 1 p1, .slice P2 1 p2, .string ⟨#[]⟩, .int .i64 0] [] _ rfl BP.out rfl Tryz.underlying84 rfl infoPol ?_) | (refine wpList_load_part rfl 142 _ rfl m_ 0 142 [] [.slice AM 3 cM, .map (some bM)] [] _ rfl BM.out rfl Tryz.underlying142 rfl infoMsg ?_))
 refine (code_ok P1 P2 p1 p2 p _ An nn cn ns _ HM.out HN.out hn1 hnn H16.out).mono ?_; rintro e y8 ⟨rfl, hb⟩; have BP := qs BP hb; have BG := qs BG hb; have BX := qs BX hb; have HP1 := qs HP1 hb; have HP2 := qs HP2 hb; have HR := qs HR hb; have HC := qs HC hb; have HN := qs HN hb; have BE := qs BE hb; have HM := qs HM hb; have BM := qs BM hb; have RW := qt RW hb; clear hb
 go_upto_region 10 with fail
 go_wp2_with (first | (refine wpList_load_part rfl 84 _ rfl b_ 0 84 [] [.slice P1 1 p1, .slice P2 1 p2, .string ⟨#[]⟩, .int .i64 0] [] _ rfl BP.out rfl Tryz.underlying84 rfl infoPol ?_) | (refine wpList_load_part rfl 142 _ rfl m_ 0 142 [] [.slice AM 3 cM, .map (some bM)] [] _ rfl BM.out rfl Tryz.underlying142 rfl infoMsg ?_) | (refine wpList_load_part rfl 25 _ rfl g_ 0 25 [] [.slice AR nR cR] [] _ rfl BG.out rfl Tryz.underlying25 rfl infoRing ?_) | (refine wpList_load_part rfl 60 _ rfl x_ 0 60 [] [.bool cl, .slice A1 32 c1, .slice A2 32 c2, .slice A3 32 c3, .int .i64 (sa : Int), .int .i64 (sb : Int)] [] _ rfl BX.out rfl Tryz.underlying60 rfl infoCh ?_))
 refine (agreement_any P1 P2 p1 p2 p _ ks id key rest _ cl s sa sb hsa hsb _ An nn cn ns _ HP1.out HP2.out hp HR.out HG.out HE.out HC.out HM.out HN.out hnn H16.out).mono ?_; rintro e y9 ⟨AO, co, rfl, how, hb⟩; have HW8 := qq RW.out.size; have BP := qs BP hb; have BE := qs BE hb; have RW := qt RW hb; have HOW := qq how; have HB89 := qq hb; clear how hb BM HM; have kp2 := BP.out.cell 2; have kp3 := BP.out.cell 3
 go_upto_region 15 with fail
 have hk9 := HOW.out.cap; have hbz : y8.heap.size <= (y9.alloc (.cells #[.bool true, .int .i64 0, .slice none 0 0] 132)).heap.size := by have := HB89.out.size; simp; omega
 go_wp2_with (first | (refine wpList_load_part rfl 132 _ rfl e_ 0 132 [] [.bool true, .int .i64 0, .slice none 0 0] [] _ rfl BE.out rfl Tryz.underlying132 rfl infoRec ?_) | (at_builtin; refine append_items_at rfl _ _ 133 rfl i0 _ 40 Tryz.underlying133 hi hz0 hz1 hz2 rfl (by decide) rfl (HOW.out.stays ((Below.refl _ _).alloc (Nat.le_refl _) _)) rfl ((true, 0, []) : RecT) rfl (rd_three _ _ _ _ _) (by simp [encRec, Value.oneCell']) (Bytes.nil _ none 0 (Nat.zero_le _)) (fun a h => by cases h) (by unfold maxLen; omega) (by omega) hbz ?_; intro A8 c8 w8 hown8 hg8 hl8; have HG8 := qq hg8; have HO8 := qq hown8; clear hg8 hl8 hown8))
 have HRL : Hid (RecL w8 A8 (2 + nn + 1) c8 (rspR p (cooR id key (keyP s p 15 0) (keyP s p 15 1) ns))) := HO8.out.recL; have hx9 : Below y9.heap.size y9 (y9.alloc (.cells #[.bool true, .int .i64 0, .slice none 0 0] 132)) := below_alloc1 _ _; have RW9 := RW.out.trans (hx9.mono RW.out.size); have RW := qq (RW9.grown HG8.out RW9.size (fun j hj => Nat.le_trans HW8.out (HOW.out.old j hj))); have hlr : (rspR p (cooR id key (keyP s p 15 0) (keyP s p 15 1) ns)).length = 2 + nn + 1 := HRL.out.len; have HEN := qq (rEncode_any A8 (2 + nn + 1) c8 _ _ HRL.out (fun i hi => HTY.out i (by rw [hlr]; exact hi)) (by omega) HSZ.out); clear hlr hx9 RW9 HG8 HO8 hbz
 go_wp2_with fail
 refine HEN.out.mono ?_; rintro e y10 ⟨A', n', c', rfl, hB, hb⟩; have HB := qq hB; have RW := qt RW hb; clear hB hb HEN; go_wp2
 go_returns
 exact ⟨A', n', c', rfl, HB.out, RW.out⟩
def ckR (cs : List (List UInt8)) : List RecT := cs.map fun x => (false, 5, x)
def resR (p : Nat) (cs : List (List UInt8)) : List RecT := [(true, 1, putL p 2), (true, 4, putL 15 2)] ++ ckR cs ++ [(true, 0, [])]
theorem kindL_append (a b : List RecT) (k : Int) : kindL (a ++ b) k = kindL a k ++ kindL b k := by unfold kindL; rw [List.filter_append]
theorem kindL_ck5 (cs : List (List UInt8)) : kindL (ckR cs) 5 = ckR cs := by
 unfold kindL ckR; rw [List.filter_eq_self]; intro r hr; obtain ⟨x, _, rfl⟩ := List.mem_map.1 hr; simp
theorem kindL_ck (cs : List (List UInt8)) {k : Int} (hk : k ≠ 5) : kindL (ckR cs) k = [] := kindL_none fun r hr => by
 obtain ⟨x, _, rfl⟩ := List.mem_map.1 hr; exact fun e => hk e.symm
theorem kindL_res (p : Nat) (cs : List (List UInt8)) (k : Int) : kindL (resR p cs) k = kindL [(true, 1, putL p 2), (true, 4, putL 15 2)] k ++ (kindL (ckR cs) k ++ kindL [(true, 0, [])] k) := by
 unfold resR; rw [kindL_append, kindL_append, List.append_assoc]
theorem kind1_res (p : Nat) (cs : List (List UInt8)) : kindL (resR p cs) 1 = [(true, 1, putL p 2)] := by rw [kindL_res, kindL_ck cs (by decide)]; rfl
theorem kind4_res (p : Nat) (cs : List (List UInt8)) : kindL (resR p cs) 4 = [(true, 4, putL 15 2)] := by rw [kindL_res, kindL_ck cs (by decide)]; rfl
theorem kind0_res (p : Nat) (cs : List (List UInt8)) : kindL (resR p cs) 0 = [(true, 0, [])] := by rw [kindL_res, kindL_ck cs (by decide)]; rfl
theorem kind5_res (p : Nat) (cs : List (List UInt8)) : kindL (resR p cs) 5 = ckR cs := by rw [kindL_res, kindL_ck5]; show [] ++ (ckR cs ++ []) = ckR cs; simp
theorem kindX_res (p : Nat) (cs : List (List UInt8)) {k : Int} (h1 : k ≠ 1) (h4 : k ≠ 4) (h0 : k ≠ 0) (h5 : k ≠ 5) : kindL (resR p cs) k = [] := by
 rw [kindL_res, kindL_ck cs h5, kindL_none (k := k) (rs := [(true, 1, putL p 2), (true, 4, putL 15 2)]) (fun r hr => by simp at hr; rcases hr with rfl | rfl <;> simp <;> omega), kindL_none (k := k) (rs := [(true, 0, [])]) (fun r hr => by simp at hr; subst hr; simp; omega)]
 rfl
theorem resR_length (p : Nat) (cs : List (List UInt8)) : (resR p cs).length = 3 + cs.length := by unfold resR ckR; simp; omega
theorem ckR_recT (cs : List (List UInt8)) (i : Nat) (h : i < cs.length) : recT (ckR cs) i = 5 := by simp [recT, ckR, List.getD, h]
theorem ckR_recD (cs : List (List UInt8)) (i : Nat) (h : i < cs.length) : recD (ckR cs) i = listAt cs i := by rw [listAt_get h]; simp [recD, ckR, List.getD, h]
theorem recT_mem {rs : List RecT} {P : Int -> Prop} (h : ∀ r ∈ rs, P r.2.1) (i : Nat) (hi : i < rs.length) : P (recT rs i) := by
 have h1 := h (rs[i]) (List.getElem_mem hi); rw [rec_eq rs i hi] at h1; exact h1
theorem resR_ty (p : Nat) (cs : List (List UInt8)) : ∀ i, i < (resR p cs).length -> ∃ t : Nat, recT (resR p cs) i = (t : Int) ∧ t < 8 :=
 recT_mem (P := fun z => ∃ t : Nat, z = (t : Int) ∧ t < 8) (fun r hr => by
  unfold resR ckR at hr; simp only [List.mem_append, List.mem_cons, List.mem_map, List.not_mem_nil, or_false] at hr; rcases hr with ((rfl | rfl) | ⟨x, _, rfl⟩) | rfl
  · exact ⟨1, rfl, by decide⟩
  · exact ⟨4, rfl, by decide⟩
  · exact ⟨5, rfl, by decide⟩
  · exact ⟨0, rfl, by decide⟩)
theorem resR_ok (p : Nat) (cs : List (List UInt8)) (hl : cs.length <= 8) : MsgOk (resR p cs) where
 ty := resR_ty p cs
 len := by rw [resR_length]; omega
 end1 := by rw [kind0_res]; rfl
 endE := by rw [kind0_res]; rfl
 last := by
  have : (resR p cs).length - 1 = ([(true, 1, putL p 2), (true, 4, putL 15 2)] ++ ckR cs : List RecT).length := by rw [resR_length]; simp [ckR]; omega
  rw [this]; unfold resR recT; simp [List.getD]
 once := fun k => by
  by_cases h5 : k = 5
  · exact .inr h5
  left
  by_cases h1 : k = 1
  · subst h1; rw [kind1_res]; exact Nat.le_refl 1
  by_cases h4 : k = 4
  · subst h4; rw [kind4_res]; exact Nat.le_refl 1
  by_cases h0 : k = 0
  · subst h0; rw [kind0_res]; exact Nat.le_refl 1
  rw [kindX_res p cs h1 h4 h0 h5]; exact Nat.zero_le _
 two := fun i hi => by
  rw [kind1_res, kind4_res] at hi ⊢; have h3 : i < 2 := hi; rcases (by omega : i = 0 ∨ i = 1) with rfl | rfl
  · exact putL_length _ _
  · exact putL_length _ _
 port := kindX_res p cs (by decide) (by decide) (by decide) (by decide)
theorem MsgV.look {w : World} {AM : Option Addr} {N cM bM : Nat} {rs : List RecT} (h : MsgV w (.agg #[.slice AM N cM, .map (some bM)]) rs) (k : Nat) (hk : k <= 7) : ∃ A c, (Instr.lookup 140 (.map (some bM)) (.int .i64 k) false).run Tryz.prog w = .ok (.slice A (kindL rs k).length c) w ∧ RecL w A (kindL rs k).length c (kindL rs k) := by
 obtain ⟨A, c, b, n, V, ev, hR, hV, hK⟩ := h; injection ev with ev
 injection ev with ev
 injection ev with _ ev
 injection ev with ev _
 injection ev with ev
 injection ev with ev
 subst ev; obtain ⟨A', c', e1, r1⟩ := hK k; have l := hV.look (k := k) (by omega) (by omega); rw [e1] at l; exact ⟨A', c', l, r1⟩
theorem infoTrm : (Tryz.prog.info? 32).map (·.size) = some 7 := by kernel_rfl
theorem esFinish_any (ch : Value) (cl : Bool) (s : List UInt8) (sa sb : Nat) (hsa : sa <= 1) (hsb : sb <= 1) (AQ : Option Addr) (nQ cQ : Nat) (AS : Option Addr) (nS cS : Nat) (p : Nat) (cs : List (List UInt8)) (w : World)
    (hc : Chan w ch cl s sa sb) (hq : Bytes w AQ nQ cQ ((reqR p 15).flatMap encR)) (hs : Bytes w AS nS cS ((resR p cs).flatMap encR)) (hS : nS <= 65535) (hp : p <= 65535) (hcs : cs.length <= 8) (hc1 : 1 <= cs.length) (h104 : ∀ i, i < cs.length -> (listAt cs i).length = 104) :
    Calls Tryz.prog 29 #[ch, .slice AQ nQ cQ, .slice AS nS cS] w fun e w' => ∃ K1 K2 A3 c3, e = .returned (.tuple #[.agg #[.int .i64 (p : Int), .int .i64 15, .slice K1 32 32, .slice K2 32 32, .slice A3 cs.length c3, .string ⟨#[]⟩, .int .i64 0], .int .i64 0]) ∧ Bytes w' K1 32 32 (keyP s p 15 0) ∧ Bytes w' K2 32 32 (keyP s p 15 1) ∧ Lists w' A3 cs.length c3 cs ∧ Below w.heap.size w w' := by
 obtain ⟨i0, hi, hz0, hz1, hz2⟩ := info_parts infoBytesA; have hc' := hc; obtain ⟨A1, c1, A2, c2, A3, c3, rfl, _, _, _⟩ := hc'; have HC := qq hc; have HQ := qq hq; have HS := qq hs; have H104 := qq h104; have HOK := qq (resR_ok p cs hcs); obtain ⟨nn, hnn⟩ : ∃ nn, cs.length = nn := ⟨_, rfl⟩; have HNN := qq hnn; rw [hnn] at hcs hc1 ⊢; have HK1 : Hid ((kindL (resR p cs) ((1 : Nat) : Int)).length = 1 ∧ (recD (kindL (resR p cs) ((1 : Nat) : Int)) 0).length = 2 ∧ be64 (recD (kindL (resR p cs) ((1 : Nat) : Int)) 0) 2 = p) := by
  rw [show ((1 : Nat) : Int) = 1 from rfl, kind1_res]; exact ⟨rfl, putL_length _ _, be64_p2 p hp⟩
 have HK4 : Hid ((kindL (resR p cs) ((4 : Nat) : Int)).length = 1 ∧ (recD (kindL (resR p cs) ((4 : Nat) : Int)) 0).length = 2 ∧ be64 (recD (kindL (resR p cs) ((4 : Nat) : Int)) 0) 2 = 15) := by
  rw [show ((4 : Nat) : Int) = 4 from rfl, kind4_res]; exact ⟨rfl, putL_length _ _, rfl⟩
 have HX2 : Hid (decide (0 < (kindL (resR p cs) ((2 : Nat) : Int)).length) = false) := by rw [Hid, show ((2 : Nat) : Int) = 2 from rfl, kindX_res p cs (by decide) (by decide) (by decide) (by decide)]; rfl
 have HX6 : Hid (decide (0 < (kindL (resR p cs) ((6 : Nat) : Int)).length) = false) := by rw [Hid, show ((6 : Nat) : Int) = 6 from rfl, kindX_res p cs (by decide) (by decide) (by decide) (by decide)]; rfl
 have HX7 : Hid (decide (0 < (kindL (resR p cs) ((7 : Nat) : Int)).length) = false) := by rw [Hid, show ((7 : Nat) : Int) = 7 from rfl, kindX_res p cs (by decide) (by decide) (by decide) (by decide)]; rfl
 clear hc hq hs h104 hnn
 go_enter Tryz.func29, Tryz.ntmps29
 go_upto_region 1 with fail
 obtain ⟨wz, x_, r_, ewz, ex_, er_⟩ : ∃ wz x_ r_, wz = (w.alloc (.cells #[.bool cl, .slice A1 32 c1, .slice A2 32 c2, .slice A3 32 c3, .int .i64 (sa : Int), .int .i64 (sb : Int)] 60)).alloc (.cells #[.int .i64 0, .int .i64 0, .slice none 0 0, .slice none 0 0, .slice none 0 0, .string ⟨#[]⟩, .int .i64 0] 32) ∧ x_ = w.heap.size ∧ r_ = w.heap.size + 1 := ⟨_, _, _, rfl, rfl, rfl⟩; have hb : Below w.heap.size w wz := by rw [ewz]; exact below_alloc2 _ _ _
 have BX := qq (show Blk wz x_ 60 #[.bool cl, .slice A1 32 c1, .slice A2 32 c2, .slice A3 32 c3, .int .i64 (sa : Int), .int .i64 (sb : Int)] by rw [ewz, ex_]; exact blk_new2_0 _ _ _ _ _); have BR := qq (show Blk wz r_ 32 #[.int .i64 0, .int .i64 0, .slice none 0 0, .slice none 0 0, .slice none 0 0, .string ⟨#[]⟩, .int .i64 0] by rw [ewz, er_]; exact blk_new2_1 _ _ _ _ _); have wr_ : w.heap.size <= r_ := by omega
 rw [<- ewz, <- er_, <- ex_]; have HC := qs HC hb; have HQ := qs HQ hb; have HS := qs HS hb; have RW := qq hb; clear hb ewz ex_ er_
 go_wp2_with fail
 refine (offer_any AQ nQ cQ p 15 _ HQ.out hp (by decide)).mono ?_; rintro e y1 ⟨I1, d1, I2, d2, rfl, hI1, hI2, hb⟩; have BX := qs BX hb; have BR := qs BR hb; have HC := qs HC hb; have HS := qs HS hb; have RW := qt RW hb; have HI1 := qq hI1; have HI2 := qq hI2; clear hb hI1 hI2 HQ
 go_wp2_with fail
 refine (read_any AS nS cS (resR p cs) _ HS.out hS HOK.out).mono ?_; rintro e y2 ⟨v, rfl, hM, hb⟩; have hM' := hM; obtain ⟨AM, cM, bM, nM, VM, ev, _, _, _⟩ := hM'; obtain ⟨N, eN⟩ : ∃ N, (resR p cs).length = N := ⟨_, rfl⟩; rw [eN] at ev; subst ev; have BX := qs BX hb; have BR := qs BR hb; have HC := qs HC hb; have HI1 := qs HI1 hb; have HI2 := qs HI2 hb; have RW := qt RW hb; have HM := qq hM; clear hM hb HS eN
 go_upto_region 3 with (refine wpList_store_part rfl 142 _ _ rfl y2.heap.size 0 142 [] [.slice none 0 0, .map none] [] [.slice AM N cM, .map (some bM)] rfl rfl (Blk.new _ _ _) rfl rfl infoMsg (by simp [Value.oneCell']) ?_; intro y3 D G; have G := below_new_store G; rw [List.append_nil, List.nil_append] at D)
 obtain ⟨m_, eo⟩ : ∃ m_, m_ = y2.heap.size := ⟨_, rfl⟩; rw [<- eo] at D ⊢; have BM := qq D

 have BX := qs BX G; have BR := qs BR G; have HC := qs HC G; have HI1 := qs HI1 G; have HI2 := qs HI2 G; have HM := qs HM G; have RW := qt RW G; clear D G eo
 go_wp2_with (refine wpList_load_part rfl 60 _ rfl x_ 0 60 [] [.bool cl, .slice A1 32 c1, .slice A2 32 c2, .slice A3 32 c3, .int .i64 (sa : Int), .int .i64 (sb : Int)] [] _ rfl BX.out rfl Tryz.underlying60 rfl infoCh ?_)
 refine (chValid_any _ cl s sa sb hsa hsb _ HC.out).mono ?_; rintro e y4 ⟨rfl, hb⟩; have BX := qs BX hb; have BR := qs BR hb; have HC := qs HC hb; have HM := qs HM hb; have BM := qs BM hb; have HI1 := qs HI1 hb; have HI2 := qs HI2 hb; have RW := qt RW hb; clear hb
 go_wp2_with (refine wpList_load_part rfl 142 _ rfl m_ 0 142 [] [.slice AM N cM, .map (some bM)] [] _ rfl BM.out rfl Tryz.underlying142 rfl infoMsg ?_)
 refine (strange_no _ _ _ HM.out (fun i hi => by obtain ⟨t, e1, e2⟩ := HOK.out.ty i hi; rw [e1]; omega)).mono ?_; rintro e y5 ⟨rfl, hb⟩; have BX := qs BX hb; have BR := qs BR hb; have HC := qs HC hb; have HM := qs HM hb; have BM := qs BM hb; have HI1 := qs HI1 hb; have HI2 := qs HI2 hb; have RW := qt RW hb; clear hb
 go_wp2_with (refine wpList_load_part rfl 142 _ rfl m_ 0 142 [] [.slice AM N cM, .map (some bM)] [] _ rfl BM.out rfl Tryz.underlying142 rfl infoMsg ?_)
 refine (has_any _ _ 2 _ HM.out (by decide)).mono ?_; rintro e y6 ⟨rfl, hb⟩; have BX := qs BX hb; have BR := qs BR hb; have HC := qs HC hb; have HM := qs HM hb; have BM := qs BM hb; have HI1 := qs HI1 hb; have HI2 := qs HI2 hb; have RW := qt RW hb; rw [HX2.out]; clear hb
 go_wp2_with (refine wpList_load_part rfl 142 _ rfl m_ 0 142 [] [.slice AM N cM, .map (some bM)] [] _ rfl BM.out rfl Tryz.underlying142 rfl infoMsg ?_)
 refine (only_one _ _ 1 _ _ _ [p] _ HM.out (by decide) HK1.out.1 HK1.out.2.1 HI1.out (by rw [HK1.out.2.2]; simp)).mono ?_; rintro e y7 ⟨rfl, hb⟩; have BX := qs BX hb; have BR := qs BR hb; have HC := qs HC hb; have HM := qs HM hb; have BM := qs BM hb; have HI2 := qs HI2 hb; have RW := qt RW hb; rw [HK1.out.2.2]; clear hb
 go_wp2_with (refine wpList_load_part rfl 142 _ rfl m_ 0 142 [] [.slice AM N cM, .map (some bM)] [] _ rfl BM.out rfl Tryz.underlying142 rfl infoMsg ?_)
 refine (only_one _ _ 4 _ _ _ [15] _ HM.out (by decide) HK4.out.1 HK4.out.2.1 HI2.out (by rw [HK4.out.2.2]; simp)).mono ?_; rintro e y8 ⟨rfl, hb⟩; have BX := qs BX hb; have BR := qs BR hb; have HC := qs HC hb; have HM := qs HM hb; have BM := qs BM hb; have RW := qt RW hb; rw [HK4.out.2.2]; clear hb

 obtain ⟨A5, c5, l5, r5⟩ := HM.out.look 5 (by decide); rw [show ((5 : Nat) : Int) = 5 from rfl, kind5_res, show (ckR cs).length = nn by rw [<- HNN.out]; simp [ckR]] at l5 r5; have HR5 := qq r5; have q5 := r5.le; have q6 := r5.cap; have cm1 := BM.out.cell 1; have z0 : ¬ (nn : Int) = 0 := by omega
 have z8 : ¬ (8 : Int) < (nn : Int) := by omega
 clear r5
 go_upto_region 17 with (refine wpList_store_part rfl 32 _ _ rfl y8.heap.size 0 32 [] [.int .i64 0, .int .i64 0, .slice none 0 0, .slice none 0 0, .slice none 0 0, .string ⟨#[]⟩, .int .i64 0] [] [.int .i64 (p : Int), .int .i64 15, .slice none 0 0, .slice none 0 0, .slice none 0 0, .string ⟨#[]⟩, .int .i64 0] rfl rfl (Blk.new _ _ _) rfl rfl infoTrm (by simp [Value.oneCell']) ?_; intro y9 D G; have G := below_new_store G; rw [List.append_nil, List.nil_append] at D)
 obtain ⟨t_, eo⟩ : ∃ t_, t_ = y8.heap.size := ⟨_, rfl⟩; rw [<- eo] at D ⊢; have BT := qq D

 have R8 := qq G; have RW9 := qt RW G; have BX9 := qs BX G; have HC9 := qs HC G; have ht8 : y8.heap.size <= t_ := Nat.le_of_eq eo.symm; have rt : r_ < t_ := by rw [eo]; exact BR.out.lt
 have wt_ : w.heap.size <= t_ := Nat.le_trans RW.out.size ht8; have HT8 := qq ht8; clear D G eo ht8 cm1 l5
 go_wp2_with (refine wpList_load_part rfl 60 _ rfl x_ 0 60 [] [.bool cl, .slice A1 32 c1, .slice A2 32 c2, .slice A3 32 c3, .int .i64 (sa : Int), .int .i64 (sb : Int)] [] _ rfl BX9.out rfl Tryz.underlying60 rfl infoCh ?_)
 refine (keys_any _ cl s sa sb hsa hsb p 15 hp (by decide) _ HC9.out).mono ?_; rintro e y10 ⟨K1, K2, rfl, hk1, hk2, hb⟩; have BT := qs BT hb; have R8 := qt R8 hb; have HK1 := qq hk1; have HK2 := qq hk2; clear hb hk1 hk2 BX9 HC9 RW9
 go_upto_region 18 with (refine wpList_store_part rfl 29 _ _ rfl t_ 2 32 [.int .i64 (p : Int), .int .i64 15] [.slice none 0 0, .slice none 0 0] [.slice none 0 0, .string ⟨#[]⟩, .int .i64 0] [.slice K1 32 32, .slice K2 32 32] rfl rfl BT.out rfl rfl infoPr (by simp [Value.oneCell']) ?_; intro y11 D G)
 have BT9 : Hid (Blk y11 t_ 32 #[.int .i64 (p : Int), .int .i64 15, .slice K1 32 32, .slice K2 32 32, .slice none 0 0, .string ⟨#[]⟩, .int .i64 0]) := D; have HK1 := qq (HK1.out.kept G (off_block HK1.out BT.out rfl)); have HK2 := qq (HK2.out.kept G (off_block HK2.out BT.out rfl)); have R8 := qq (R8.out.grown G R8.out.size (fun k hk => by cases hk; exact HT8.out)); clear BT G D; go_wp2
 go_loopw [99] (fun i wr => ∃ (k co : Nat) (AO : Option Addr), k <= nn ∧ i = .int .i64 k ∧ Hid (OwnItems 1 encB id 27 wr y8.heap.size AO k co (cs.take k)) ∧ Hid (Blk wr t_ 32 #[.int .i64 (p : Int), .int .i64 15, .slice K1 32 32, .slice K2 32 32, .slice AO k co, .string ⟨#[]⟩, .int .i64 0]) ∧
     Hid (Off K1 32 (Value.slice AO k co).ownBlock) ∧ Hid (Off K2 32 (Value.slice AO k co).ownBlock) ∧ Hid (Bytes wr K1 32 32 (keyP s p 15 0)) ∧ Hid (Bytes wr K2 32 32 (keyP s p 15 1)) ∧ Below y8.heap.size y8 wr) (fun i _ => nn - (intOf i).toNat)
 case atStart => exact ⟨0, 0, none, Nat.zero_le _, rfl, OwnItems.nil _ _, BT9.out, (fun _ _ _ e => by cases e), (fun _ _ _ e => by cases e), HK1.out, HK2.out, R8.out⟩
 case round =>
  clear BT9 HK1 HK2 R8; obtain ⟨k, co, AO, hk, rfl, HOW, BT, HOF1, HOF2, HK1, HK2, hbr⟩ := hrel; have R8 := qq hbr
  by_cases hkn : k < nn
  · have hki : (k : Int) < (nn : Int) := by omega
    obtain ⟨b5, o5, A6, n6, c6, rfl, hc0, hc1, hc2, hy⟩ := (HR5.out.stays hbr).at_ hkn; have hkc : k < cs.length := by rw [HNN.out]; exact hkn
    rw [ckR_recD cs k hkc] at hy; rw [ckR_recT cs k hkc] at hc1; have h4 := H104.out k hkc; obtain rfl : n6 = 104 := by rw [<- hy.len]; exact h4
    obtain ⟨cr, ecr⟩ : ∃ cr, recC (ckR cs) k = cr := ⟨_, rfl⟩; rw [ecr] at hc0; obtain ⟨q, hq⟩ : ∃ q, o5 + k * 3 = q := ⟨_, rfl⟩; rw [hq] at hc0 hc1 hc2; have HY := qq hy; have HYO : Hid (Off A6 104 (Value.slice AO k co).ownBlock) := by
     obtain ⟨b7, o7, A7, n7, c7, g1, _, _, g2, g3⟩ := HR5.out.at_ hkn; injection g1 with g1
     injection g1 with g1 g4
     subst g1; subst g4; have g5 := cell_stays hbr g2; rw [hq] at g5; rw [hc2] at g5; injection g5 with g5
     injection g5 with g5 g6 g7
     subst g5; subst g6; exact Off.old g3 HOW.out.old
    clear hy h4 ecr hbr
    go_upto_region 21 with fail
    obtain ⟨z2, f_, ez2, ef_⟩ : ∃ z2 f_, z2 = wr.alloc (.cells #[.bool cr, .int .i64 5, .slice A6 104 c6] 132) ∧ f_ = wr.heap.size := ⟨_, _, rfl, rfl⟩; rw [<- ez2, <- ef_]; have hx : Below wr.heap.size wr z2 := by rw [ez2]; exact below_alloc1 _ _
    have BF := qq (show Blk z2 f_ 132 #[.bool cr, .int .i64 5, .slice A6 104 c6] by rw [ez2, ef_]; exact Blk.new _ _ _); have hx2 := hx.trans ((below_alloc1 z2 (.cells #[.slice A6 104 c6] 27)).mono hx.size); have ct4 := (BT.out.stays hx).cell 4; have cf2 := BF.out.cell 2; have HOW2 := qs HOW hx2; have BT2 := qs BT hx2; have HK12 := qs HK1 hx2; have HK22 := qs HK2 hx2; have R82 := qt R8 hx2; have HY2 := qs HY hx2; have hk9 := HOW.out.cap; have hbz := R82.out.size; have neT := own_ne' HOW2.out BT2.out (by decide); clear hx hx2 ez2 ef_ hc0 hc1 hc2 hq
    go_wp2_with (at_builtin; refine append_items_at rfl _ _ 30 rfl i0 _ 24 Tryz.underlying30 hi hz0 hz1 hz2 rfl (by decide) rfl HOW2.out rfl (listAt cs k) rfl (rd_one _ _ _) (by simp [encB, Value.oneCell']) HY2.out HYO.out (by unfold maxLen; omega) (by omega) hbz ?_; intro A8 c8 w8 hown8 hg8 hl8; have HG8 := qq hg8; have HO8 := qq hown8; have HL8 := qq hl8; have BT8 := qq (BT2.out.grown hg8 neT.symm); have ct8 := BT8.out.cell 4; have cf8 := BT8.out.frozen 4; clear hg8 hl8 hown8)
    have G9 : w8.grownBy (w8.setCell ⟨t_, 4, none⟩ (.slice A8 (k + 1) c8)) (some t_) := grown_put (World.grownBy.refl _ _) 4 _; have K18 := HK12.out.kept HG8.out HOF1.out; have K28 := HK22.out.kept HG8.out HOF2.out; have HK19 := qq (K18.kept G9 (off_block K18 BT8.out rfl)); have HK29 := qq (K28.kept G9 (off_block K28 BT8.out rfl)); have HOF19 := qq (Off.moved HK12.out HOF1.out HL8.out); have HOF29 := qq (Off.moved HK22.out HOF2.out HL8.out); have R88 := R82.out.grown HG8.out R82.out.size HOW2.out.old; have R89 := qq (R88.grown G9 R88.size (fun j hj => by cases hj; exact HT8.out)); have HOW9 : Hid (OwnItems 1 encB id 27 (w8.setCell ⟨t_, 4, none⟩ (.slice A8 (k + 1) c8)) y8.heap.size A8 (k + 1) c8 (cs.take (k + 1))) := by
     have e1 : cs.take (k + 1) = cs.take k ++ [listAt cs k] := by rw [List.take_succ_eq_append_getElem hkc, listAt_get hkc]
     rw [Hid, e1]; exact HO8.out.keptB BT8.out (by decide) rfl G9
    have BT9 := qq (BT8.out.put 4 (.slice A8 (k + 1) c8)); clear K18 K28 R88 G9 HG8 HO8 HL8 BT8 ct8 cf8 neT ct4 cf2
    go_roundw
    case rel => exact ⟨k + 1, c8, A8, by omega, by go_num, HOW9.out, BT9.out, HOF19.out, HOF29.out, HK19.out, HK29.out, R89.out⟩
    case measure => simp [intOf]; omega
  · obtain rfl : k = nn := by omega
    clear hkn hk; obtain ⟨wx, hwx⟩ : ∃ wx, wx = wr := ⟨_, rfl⟩; subst hwx; have h9 := HOW.out; rw [List.take_of_length_le (by rw [HNN.out]; exact Nat.le_refl _)] at h9; have HL := qq h9; have BM := qs BM hbr; have BR := qs BR hbr; have HM := qs HM hbr; have RW := qt RW hbr; clear h9 HOW hbr R8 HOF1 HOF2
    go_wp2_with (refine wpList_load_part rfl 142 _ rfl m_ 0 142 [] [.slice AM N cM, .map (some bM)] [] _ rfl BM.out rfl Tryz.underlying142 rfl infoMsg ?_)
    refine (has_any _ _ 6 _ HM.out (by decide)).mono ?_; rintro e y12 ⟨rfl, hb⟩; have BM := qs BM hb; have BR := qs BR hb; have HM := qs HM hb; have BT := qs BT hb; have HK1 := qs HK1 hb; have HK2 := qs HK2 hb; have HL := qs HL hb; have RW := qt RW hb; rw [HX6.out]; clear hb
    go_wp2_with (refine wpList_load_part rfl 142 _ rfl m_ 0 142 [] [.slice AM N cM, .map (some bM)] [] _ rfl BM.out rfl Tryz.underlying142 rfl infoMsg ?_)
    refine (has_any _ _ 7 _ HM.out (by decide)).mono ?_; rintro e y13 ⟨rfl, hb⟩; have BR := qs BR hb; have BT := qs BT hb; have HK1 := qs HK1 hb; have HK2 := qs HK2 hb; have HL := qs HL hb; have RW := qt RW hb; rw [HX7.out]; clear hb
    go_wp2_with (first | (refine wpList_load_part rfl 32 _ rfl t_ 0 32 [] [.int .i64 (p : Int), .int .i64 15, .slice K1 32 32, .slice K2 32 32, .slice AO k co, .string ⟨#[]⟩, .int .i64 0] [] _ rfl BT.out rfl Tryz.underlying32 rfl infoTrm ?_) | (refine wpList_store_part rfl 32 _ _ rfl r_ 0 32 [] [.int .i64 0, .int .i64 0, .slice none 0 0, .slice none 0 0, .slice none 0 0, .string ⟨#[]⟩, .int .i64 0] [] [.int .i64 (p : Int), .int .i64 15, .slice K1 32 32, .slice K2 32 32, .slice AO k co, .string ⟨#[]⟩, .int .i64 0] rfl rfl BR.out rfl rfl infoTrm (by simp [Value.oneCell']) ?_; intro y14 D9 G9; rw [List.append_nil, List.nil_append] at D9))
    refine bodyPost_ret (results_whole2 rfl _ _ r_ _ _ _ _ rfl rfl D9 Tryz.underlying32 rfl infoTrm) rfl ⟨K1, K2, AO, co, rfl, HK1.out.kept G9 (off_block HK1.out BR.out rfl), HK2.out.kept G9 (off_block HK2.out BR.out rfl), (HL.out.keptB BR.out (by decide) rfl G9).lists, RW.out.grown G9 RW.out.size (fun k hk => by cases hk; exact wr_)⟩
end Go.Proofs.YtiemnacoebkalaaGreat
