import Derived.Test.YtiemnacoebkalaaGreatTaV29
set_option linter.all false
set_option maxRecDepth 100000
set_option maxHeartbeats 4000000
namespace Go.Proofs.YtiemnacoebkalaaGreat
open Go Go.RowKit
def exS : List UInt8 := [115, 101, 99, 116, 105, 109, 101, 32, 101, 120, 112, 111, 114, 116]
theorem be64_two (v : Nat) (h : v < 65536) : be64 (putL v 2) 2 = v := by
 simp [be64, be, putL]; omega
theorem receive_any (v : Value) (cl : Bool) (s : List UInt8) (a b0 : Nat) (ha : a <= 1) (hb : b0 <= 1) (Ab : Option Addr) (n cb : Nat) (l : List UInt8) (w : World) (h : Chan w v cl s a b0) (hl : Bytes w Ab (3 + (16 + n)) cb (recB (!cl) s b0 l)) (hn : n <= 16384) : Calls Tryz.prog 27 #[v, .slice Ab (3 + (16 + n)) cb] w fun e w' => ∃ u A' c', e = .returned (.tuple #[u, .int .i64 0, .slice A' n c', .int .i64 0]) ∧ Chan w' u cl s a (b0 + 1 : Nat) ∧ Bytes w' A' n c' l ∧ Below w.heap.size w w' := by
 have HC := qq h; have hll : l.length = n := by have := hl.len; rw [recB_length] at this; omega
 have HB := qq hl; have h' := h; obtain ⟨A1, c1, A2, c2, A3, c3, rfl, _, _, _⟩ := h'; have HK := qq (show ∀ W, Chan W (.agg #[.bool cl, .slice A1 32 c1, .slice A2 32 c2, .slice A3 32 c3, .int .i64 a, .int .i64 b0]) cl s a b0 -> Bytes W A3 32 c3 (recvK cl s) from fun W hW => by
  obtain ⟨B1, d1, B2, d2, B3, d3, e, _, _, h2⟩ := hW; injection e with e
  simp only [Array.mk.injEq, List.cons.injEq, Value.slice.injEq] at e; obtain ⟨_, _, _, ⟨rfl, _, rfl⟩, _⟩ := e; exact h2)
 obtain ⟨m, hm⟩ : ∃ m, 16 + n = m := ⟨_, rfl⟩; obtain ⟨N, hN⟩ : ∃ N, 3 + m = N := ⟨_, rfl⟩; rw [hm, hN] at HB ⊢; have mI : ¬ (16400 : Int) < (m : Int) := by omega
 have bI : ¬ (b0 : Int) = 1099511627776 := by omega
 obtain ⟨b1, hb1⟩ : ∃ b1, b0 + 1 = b1 := ⟨_, rfl⟩; have bI2 : (b0 : Int) + 1 = (b1 : Int) := by omega
 rw [hb1]; have HM := qq hm; have HN := qq hN; have HL := qq hll; have mb : m <= 20000 := by omega
 have HNm : Hid (N - 3 = m) := by unfold Hid; omega
 have mm : ¬ (m : Int) < (m : Int) := by omega
 clear h hl hll hb1 hm hN
 go_enter Tryz.func27, Tryz.ntmps27
 go_upto_region 1 with fail
 obtain ⟨y1, x_, r_, ey1, ex_, er_⟩ : ∃ y1 x_ r_, y1 = (w.alloc (.cells #[.bool cl, .slice A1 32 c1, .slice A2 32 c2, .slice A3 32 c3, .int .i64 a, .int .i64 b0] 60)).alloc (.cells chZ.toArray 60) ∧ x_ = w.heap.size ∧ r_ = w.heap.size + 1 := ⟨_, _, _, rfl, rfl, rfl⟩; rw [show (#[.bool false, .slice none 0 0, .slice none 0 0, .slice none 0 0, .int .i64 0, .int .i64 0] : Array Value) = chZ.toArray from rfl]; rw [<- ey1, <- er_, <- ex_]; have hb1 : Below w.heap.size w y1 := by rw [ey1]; exact below_alloc2 _ _ _
 have BX := qq (show Blk y1 x_ 60 #[.bool cl, .slice A1 32 c1, .slice A2 32 c2, .slice A3 32 c3, .int .i64 a, .int .i64 b0] by rw [ey1, ex_]; exact blk_new2_0 _ _ _ _ _); have BR := qq (show Blk y1 r_ 60 chZ.toArray by rw [ey1, er_]; exact blk_new2_1 _ _ _ _ _); have wr_ : w.heap.size <= r_ := by omega
 have xr : x_ < r_ := by omega
 have HC := qs HC hb1; have HB := qs HB hb1; have RW := qq hb1; clear hb1 ey1 er_ ex_
 go_wp2_with (refine wpList_load_part rfl 60 _ rfl x_ 0 60 [] [.bool cl, .slice A1 32 c1, .slice A2 32 c2, .slice A3 32 c3, .int .i64 a, .int .i64 b0] [] _ rfl BX.out rfl Tryz.underlying60 rfl infoCh ?_)
 refine (chValid_any _ cl s a b0 ha hb _ HC.out).mono ?_; rintro e y2 ⟨rfl, hb2⟩; have BX := qs BX hb2; have BR := qs BR hb2; have HC := qs HC hb2; have HB := qs HB hb2; have RW := qt RW hb2; clear hb2

 go_wp2_with fail
 refine (cut_ok (recB (!cl) s b0 l) Ab N cb 3 _ HB.out (by have := HN.out; omega) (by have := HN.out; omega)).mono ?_; rintro e y3 ⟨A5, c5, A6, c6, rfl, h5, h6, hb3⟩; obtain ⟨hd, hhd⟩ : ∃ hd, headB n = hd := ⟨_, rfl⟩; have hdl : hd.length = 3 := by rw [<- hhd]; exact headB_length n
 have e1 : (recB (!cl) s b0 l).take 3 = hd := by unfold recB; rw [HL.out, hhd, List.take_append_of_le_length (by omega), List.take_of_length_le (by omega)]
 have e2 : (recB (!cl) s b0 l).drop 3 = sealB (recvK cl s) [putL b0 8, hd] l := by unfold recB; rw [HL.out, hhd, List.drop_append_of_le_length (by omega), List.drop_of_length_le (by omega), List.nil_append, <- recvK_eq]
 rw [HNm.out] at h6 ⊢; rw [e1] at h5; rw [e2] at h6; have BX := qs BX hb3; have BR := qs BR hb3; have HC := qs HC hb3; have RW := qt RW hb3; have h5c := h5.le; obtain ⟨g5, o5, rfl, hcell⟩ := h5.at_ (by decide : 0 < 3); have hd1 : hd.drop 1 = putL m 2 := by rw [<- hhd]; unfold headB; rw [show n + 16 = m by have := HM.out; omega]; rfl
 have hd0 : byteAt hd 0 = 0 := by rw [<- hhd]; rfl
 have H15 := qq (show Bytes y3 (some ⟨g5, o5 + 1, none⟩) 2 (c5 - 1) (putL m 2) from by
  have h := h5.cutFrom 1 (by decide) (d := 2) (k := c5 - 1) rfl rfl; unfold cutA at h; rw [if_neg (by omega), Option.map_some, add_off, hd1] at h; exact h)
 have cH0 : y3.cell? ⟨g5, o5, none⟩ = some (.int .u8 0) := by
  have h := hcell; rw [hd0] at h
  simpa using h
 have HH := qq h5; have H6 := qq h6; have H0 := qq cH0; have k5 : ¬ c5 = 1 := by omega
 have k6 : ¬ c5 < 1 := by omega
 have k7 : c5 <= 9223372036854775807 := h5.cap; clear h5 h6 hb3 e1 e2 hcell hd0 hd1 cH0 hhd h5c
 go_wp2_with fail
 refine (get_any _ 2 _ _ _ H15.out).mono ?_; rintro e y4 ⟨rfl, rfl⟩; rw [be64_two m (by omega)]
 go_wp2_with fail
 refine (get_any _ 2 _ _ _ H15.out).mono ?_; rintro e y4 ⟨rfl, rfl⟩; rw [be64_two m (by omega)]; have cX := BX.out.cell; have OPENX := qq (show ∀ (A' : Option Addr) (W : World), Chan W (.agg #[.bool cl, .slice A1 32 c1, .slice A2 32 c2, .slice A3 32 c3, .int .i64 a, .int .i64 b0]) cl s a b0 -> Lists W A' 2 2 [putL b0 8, hd] -> Bytes W A6 m c6 (sealB (recvK cl s) [putL b0 8, hd] l) -> Calls Tryz.prog 59 #[.slice A3 32 c3, .slice A' 2 2, .slice A6 m c6] W fun e w' => ∃ A' c', e = .returned (.tuple #[.slice A' n c', .int .i64 0]) ∧ Bytes w' A' n c' l ∧ Fresh W.heap.size A' ∧ Below W.heap.size W w' from fun A' W h1 h2 h3 => by
  have hm := HM.out; subst hm; exact open_any (recvK cl s) A3 c3 A' 2 2 [putL b0 8, hd] A6 n c6 l W (HK.out _ h1) h2 h3 (by decide) (by decide) (listAt2 (by rw [putL_length]; decide) (by rw [hdl]; decide)) (by omega))
 go_upto_region 10 with fail
 refine mono_start (fun _ => True) [pv (.pointer (some ⟨x_, 3, none⟩)), pv (.slice A3 32 c3), pv (.pointer (some ⟨x_, 5, none⟩)), pv (.int .i64 b0), pv (.slice (some ⟨g5, o5, none⟩) 3 c5), mv (fun v u => ∃ A', v = .slice A' 2 2 ∧ Lists u A' 2 2 [putL b0 8, hd]), pv (.slice A6 m c6), mv (fun v u => ∃ A' c', v = .tuple #[.slice A' n c', .int .i64 0] ∧ Bytes u A' n c' (l)), mv (fun v u => ∃ A' c', v = .tuple #[.slice A' n c', .int .i64 0] ∧ Bytes u A' n c' (l)), mv (fun v u => ∃ A' c', v = .slice A' n c' ∧ Bytes u A' n c' (l)), pv (.int .i64 0), mv (fun v u => ∃ A' c', v = .slice A' n c' ∧ Bytes u A' n c' (l)), pv (.int .i64 0)] (by kernel_rfl) (by kernel_rfl) (fun OPS AV AL K w0 hO hA hL hK hb0 hz => ?_); refine step_pv (d := (some 53)) (hO.out 0 _ rfl) rfl rfl (fun wq hw => ?_) ?_
 · clear hO hA hL hK
   go_simp; try first | with_reducible rfl | assumption | decide
 try simp only [qp, qn]
 refine step_pg (d := (some 54)) (hO.out 1 _ rfl) rfl rfl (fun wq hw gt => ?_) ?_
 · have hx : Below y3.heap.size y3 wq := hb0.trans (hw.mono hb0.size); have c1 := (BX.out.stays hx).cell 3; clear gt hO hA hL hK
   go_simp; try first | with_reducible rfl | assumption | decide
 try simp only [qp, qn]
 refine step_pv (d := (some 55)) (hO.out 2 _ rfl) rfl rfl (fun wq hw => ?_) ?_
 · clear hO hA hL hK
   go_simp; try first | with_reducible rfl | assumption | decide
 try simp only [qp, qn]
 refine step_pg (d := (some 56)) (hO.out 3 _ rfl) rfl rfl (fun wq hw gt => ?_) ?_
 · have hx : Below y3.heap.size y3 wq := hb0.trans (hw.mono hb0.size); have c1 := (BX.out.stays hx).cell 5; clear gt hO hA hL hK
   go_simp; try first | with_reducible rfl | assumption | decide
 try simp only [qp, qn]
 refine step_pv (d := (some 57)) (hO.out 4 _ rfl) rfl rfl (fun wq hw => ?_) ?_
 · clear hO hA hL hK
   go_simp; try first | with_reducible rfl | assumption | decide
 try simp only [qp, qn]
 refine step_mc (d := (some 58)) (hO.out 5 _ rfl) rfl rfl (fun wq hw gt => ?_) (fun v_5 x_5 => ?_)
 · have hx : Below y3.heap.size y3 wq := hb0.trans (hw.mono hb0.size); refine ⟨_, _, ?_, (data_any b0 hb (some ⟨g5, o5, none⟩) 3 c5 hd _ (HH.out.stays hx)).mono (fun e q h => ?_)⟩
   · clear gt hO hA hL hK
     go_simp
   obtain ⟨A', rfl, h1, h2⟩ := h; exact ⟨_, rfl, ⟨A', rfl, h1⟩, h2⟩
 try simp only [qp, qn]
 refine step_pv (d := (some 59)) (hO.out 6 _ rfl) rfl rfl (fun wq hw => ?_) ?_
 · clear hO hA hL hK
   go_simp; try first | with_reducible rfl | assumption | decide
 try simp only [qp, qn]
 refine step_mc (d := (some 60)) (hO.out 7 _ rfl) rfl rfl (fun wq hw gt => ?_) (fun v_7 x_7 => ?_)
 · have hx : Below y3.heap.size y3 wq := hb0.trans (hw.mono hb0.size); obtain ⟨⟨A', rfl, hLs⟩, hbk⟩ := (gt 5 (hA.out 7 5 (by kernel_rfl))); refine ⟨_, _, ?_, (OPENX.out A' _ (HC.out.stays hx) (hLs.stays hbk) (H6.out.stays hx)).mono (fun e q h => ?_)⟩
   · clear gt hO hA hL hK
     go_simp
   obtain ⟨A2, c2, rfl, h1, _, h2⟩ := h; exact ⟨_, rfl, ⟨A2, c2, rfl, h1⟩, h2⟩
 try simp only [qp, qn]
 refine step_mv (d := (some 52)) (hO.out 8 _ rfl) rfl rfl (fun wq hw gt => ?_) (fun v_8 x_8 => ?_)
 · have hx : Below y3.heap.size y3 wq := hb0.trans (hw.mono hb0.size); obtain ⟨⟨A', c', rfl, hB'⟩, hbk⟩ := (gt 7 (hA.out 8 7 (by kernel_rfl))); refine ⟨_, _, ?_, ⟨A', c', rfl, hB'.stays hbk⟩, Below.refl _ _⟩; clear gt hO hA hL hK
   go_simp; try first | with_reducible rfl | rfl
 try simp only [qp, qn]
 refine step_mv (d := (some 61)) (hO.out 9 _ rfl) rfl rfl (fun wq hw gt => ?_) (fun v_9 x_9 => ?_)
 · have hx : Below y3.heap.size y3 wq := hb0.trans (hw.mono hb0.size); obtain ⟨⟨A', c', rfl, hB'⟩, hbk⟩ := (gt 8 (hA.out 9 8 (by kernel_rfl))); refine ⟨_, _, ?_, ⟨A', c', rfl, hB'.stays hbk⟩, Below.refl _ _⟩; clear gt hO hA hL hK
   go_simp; try first | with_reducible rfl | rfl
 try simp only [qp, qn]
 refine step_pg (d := (some 62)) (hO.out 10 _ rfl) rfl rfl (fun wq hw gt => ?_) ?_
 · have hx : Below y3.heap.size y3 wq := hb0.trans (hw.mono hb0.size); obtain ⟨⟨A', c', rfl, hB'⟩, hbk⟩ := (gt 8 (hA.out 10 8 (by kernel_rfl))); clear gt hO hA hL hK
   go_simp; try first | with_reducible rfl | assumption | decide
 try simp only [qp, qn]
 refine step_mv (d := (some 6)) (hO.out 11 _ rfl) rfl rfl (fun wq hw gt => ?_) (fun v_11 x_11 => ?_)
 · have hx : Below y3.heap.size y3 wq := hb0.trans (hw.mono hb0.size); obtain ⟨⟨A', c', rfl, hB'⟩, hbk⟩ := (gt 9 (hA.out 11 9 (by kernel_rfl))); refine ⟨_, _, ?_, ⟨A', c', rfl, hB'.stays hbk⟩, Below.refl _ _⟩; clear gt hO hA hL hK
   go_simp; try first | with_reducible rfl | rfl
 try simp only [qp, qn]
 refine step_pv (d := (some 7)) (hO.out 12 _ rfl) rfl rfl (fun wq hw => ?_) ?_
 · clear hO hA hL hK
   go_simp; try first | with_reducible rfl | assumption | decide
 try simp only [qp, qn]
 refine fun wq hw gt => hK.out _ _ ?_
 obtain ⟨⟨A7, c7, rfl, h7⟩, hb7⟩ := (gt 11 (hL.out 11 (by kernel_rfl))); have hx : Below y3.heap.size y3 wq := hb0.trans (hw.mono hb0.size); have H7 := qq (h7.stays hb7); clear gt hO hA hL hK h7 hb7 hb0 hz hw; refine wpAnyH_done (by kernel_rfl) ?_ _; have BX := qs BX hx; have BR := qs BR hx; have HC := qs HC hx; have cH0 := cell_stays hx H0.out; have HH := qs HH hx; have RW := qt RW hx; clear hx cX; have cX := BX.out.cell
 go_upto_region 13 with fail
 obtain ⟨y6, hy6⟩ : ∃ y6, wq = y6 := ⟨_, rfl⟩; rw [hy6] at BX BR HC cH0 HH RW H7 ⊢; clear hy6; have hd0 : Below y6.heap.size y6 y6.drew := (Below.refl _ _).drew; have wb : IntKind.i64.wrap (b1 : Int) = (b1 : Int) := IntWalk.i64_in _ (by omega); have HBXg := qq (show ∀ z, y6.grownBy z (some r_) -> Blk z x_ 60 #[.bool cl, .slice A1 32 c1, .slice A2 32 c2, .slice A3 32 c3, .int .i64 a, .int .i64 b0] from fun z hg => BX.out.grown hg (by simp; omega)); have HCg := qq (show ∀ z, y6.grownBy z (some r_) -> z.cell? ⟨g5, o5, none⟩ = some (.int .u8 0) from fun z hg => (World.cell?_of_block (a := ⟨g5, o5, none⟩) (hg.block g5 (World.block_lt_of_cell? y6 _ cH0) (fun e => off_block HH.out BR.out rfl _ rfl (by decide) e.symm))).trans cH0); refine take_start (S := fun w' => y6.grownBy w' (some r_)) (by kernel_rfl) ?hPQ1 (grown_of_below hd0 _) (fun hPQ hHeld => ?rest1)
 case hPQ1 => (repeat (with_reducible first | refine PQ.then ?_ | refine PQ.block ?_)); exact fun _ _ d _ _ h => by cases d <;> exact h
 clear cX cH0; refine take_val (i := 0) (d := (some 66)) (v := .agg #[.bool cl, .slice A1 32 c1, .slice A2 32 c2, .slice A3 32 c3, .int .i64 a, .int .i64 b0]) rfl rfl (by kernel_rfl) (by kernel_rfl) (by kernel_rfl) hPQ (by rfl) (fun wq hSw => ?_) hHeld ?_
 · exact exec_load_part 60 _ rfl x_ 0 60 [] [.bool cl, .slice A1 32 c1, .slice A2 32 c2, .slice A3 32 c3, .int .i64 a, .int .i64 b0] [] _ rfl (HBXg.out _ hSw) rfl Tryz.underlying60 rfl infoCh
 try simp only [qp, qn]
 refine take_val (i := 1) (d := (some 67)) (v := .pointer (some ⟨x_, 4, none⟩)) rfl rfl (by kernel_rfl) (by kernel_rfl) (by kernel_rfl) hPQ (by rfl) (fun wq hSw => ?_) hHeld ?_
 · clear hPQ; go_simp; try first | with_reducible rfl | assumption | decide
 try simp only [qp, qn]
 refine take_val (i := 2) (d := (some 68)) (v := .int .i64 a) rfl rfl (by kernel_rfl) (by kernel_rfl) (by kernel_rfl) hPQ (by rfl) (fun wq hSw => ?_) hHeld ?_
 · have c1 := (HBXg.out _ hSw).cell 4; clear hPQ; go_simp; try first | with_reducible rfl | assumption | decide
 try simp only [qp, qn]
 refine take_val (i := 3) (d := (some 69)) (v := .pointer (some ⟨x_, 5, none⟩)) rfl rfl (by kernel_rfl) (by kernel_rfl) (by kernel_rfl) hPQ (by rfl) (fun wq hSw => ?_) hHeld ?_
 · clear hPQ; go_simp; try first | with_reducible rfl | assumption | decide
 try simp only [qp, qn]
 refine take_val (i := 4) (d := (some 70)) (v := .int .i64 b0) rfl rfl (by kernel_rfl) (by kernel_rfl) (by kernel_rfl) hPQ (by rfl) (fun wq hSw => ?_) hHeld ?_
 · have c1 := (HBXg.out _ hSw).cell 5; clear hPQ; go_simp; try first | with_reducible rfl | assumption | decide
 try simp only [qp, qn]
 refine take_val (i := 5) (d := (some 71)) (v := .int .i64 b1) rfl rfl (by kernel_rfl) (by kernel_rfl) (by kernel_rfl) hPQ (by rfl) (fun wq hSw => ?_) hHeld ?_
 · clear hPQ; go_simp; try first | with_reducible rfl | assumption | decide
 try simp only [qp, qn]
 refine take_val (i := 7) (d := (some 73)) (v := .slice (some ⟨g5, o5, none⟩) 3 c5) rfl rfl (by kernel_rfl) (by kernel_rfl) (by kernel_rfl) hPQ (by rfl) (fun wq hSw => ?_) hHeld ?_
 · clear hPQ; go_simp; try first | with_reducible rfl | assumption | decide
 try simp only [qp, qn]
 refine take_val (i := 8) (d := (some 74)) (v := .pointer (some ⟨g5, o5, none⟩)) rfl rfl (by kernel_rfl) (by kernel_rfl) (by kernel_rfl) hPQ (by rfl) (fun wq hSw => ?_) hHeld ?_
 · clear hPQ; go_simp; try first | with_reducible rfl | assumption | decide
 try simp only [qp, qn]
 refine take_val (i := 9) (d := (some 75)) (v := .int .u8 0) rfl rfl (by kernel_rfl) (by kernel_rfl) (by kernel_rfl) hPQ (by rfl) (fun wq hSw => ?_) hHeld ?_
 · have c1 := HCg.out _ hSw; clear hPQ; go_simp; try first | with_reducible rfl | assumption | decide
 try simp only [qp, qn]
 refine take_val (i := 10) (d := (some 76)) (v := .int .i64 0) rfl rfl (by kernel_rfl) (by kernel_rfl) (by kernel_rfl) hPQ (by rfl) (fun wq hSw => ?_) hHeld ?_
 · clear hPQ; go_simp; try first | with_reducible rfl | assumption | decide
 try simp only [qp, qn]
 refine take_val (i := 11) (d := (some 77)) (v := .slice A7 n c7) rfl rfl (by kernel_rfl) (by kernel_rfl) (by kernel_rfl) hPQ (by rfl) (fun wq hSw => ?_) hHeld ?_
 · clear hPQ; go_simp; try first | with_reducible rfl | assumption | decide
 try simp only [qp, qn]
 refine take_make (j := 6) (d := (some 72)) (R := fun v u => Chan u v cl s a b1 ∧ Below y6.drew.heap.size y6.drew u) rfl rfl (by kernel_rfl) rfl ((copied_any _ cl s a b0 a b1 _ (HC.out.stays hd0)).mono (fun e q h => h)) (by go_simp) (fun v6 w6 h6 => ?_); obtain ⟨hu, hb6⟩ := h6; obtain ⟨B1, d1, B2, d2, B3, d3, rfl, k1, k2, k3⟩ := hu; have hx : Below y6.heap.size y6 w6 := hd0.trans (hb6.mono hd0.size); refine ⟨grown_of_below hx _, ?_⟩; try simp only [qp, qn]
 have BR := qs BR hx; have H7 := qs H7 hx; have RW := qt RW hx; refine take_store_part (j := 12) rfl rfl (by kernel_rfl) rfl 60 _ _ rfl r_ 0 60 [] chZ [] [.bool cl, .slice B1 32 d1, .slice B2 32 d2, .slice B3 32 d3, .int .i64 a, .int .i64 b1] rfl rfl BR.out rfl rfl infoCh (by simp [Value.oneCell']) (fun w2 hg => (grown_of_below hx _).trans hg) (fun w5 D G => ?_); rw [List.append_nil, List.nil_append] at D; have GS := (grown_of_below hx (some r_)).trans G; refine take_do (j := 13) (d := (some 5)) (v := .int .i64 0) (w2 := w5) rfl rfl (by kernel_rfl) rfl (Or.inl (by clear hPQ; go_simp; try with_reducible rfl)) GS ?_; try simp only [qp, qn]
 refine take_do (j := 14) (d := (some 6)) (v := .slice A7 n c7) (w2 := w5) rfl rfl (by kernel_rfl) rfl (Or.inl (by clear hPQ; go_simp; try with_reducible rfl)) GS ?_; try simp only [qp, qn]
 refine take_do (j := 15) (d := (some 7)) (v := .int .i64 0) (w2 := w5) rfl rfl (by kernel_rfl) rfl (Or.inl (by clear hPQ; go_simp; try with_reducible rfl)) GS ?_; try simp only [qp, qn]
 refine wpAnyH_done (by kernel_rfl) ?_ _
 go_wp2_with fail
 refine bodyPost_ret (results_whole4 rfl _ _ r_ _ _ _ _ _ _ rfl rfl rfl rfl D Tryz.underlying60 rfl infoCh) rfl ⟨_, A7, c7, rfl, ⟨B1, d1, B2, d2, B3, d3, rfl, k1.kept G (off_block k1 BR.out rfl), k2.kept G (off_block k2 BR.out rfl), k3.kept G (off_block k3 BR.out rfl)⟩, H7.out.kept G (off_block H7.out BR.out rfl), ?_⟩; exact RW.out.grown G RW.out.size (fun k hk => by cases hk; exact wr_)
theorem export_any (v : Value) (cl : Bool) (s : List UInt8) (a b0 : Nat) (ha : a <= 1) (hb : b0 <= 1) (q : ByteArray) (hq : q.size <= 1000) (Ab : Option Addr) (n cb : Nat) (l : List UInt8) (w : World) (h : Chan w v cl s a b0) (hl : Bytes w Ab n cb l) : Calls Tryz.prog 54 #[v, .string q, .slice Ab n cb, .int .i64 32] w fun e w' => ∃ A', e = .returned (.tuple #[.slice A' 32 32, .int .i64 0]) ∧ Bytes w' A' 32 32 (expandL s (labelL exS q.data.toList l) 32) ∧ Below w.heap.size w w' := by
 have HC := qq h; have HB := qq hl; have h' := h; obtain ⟨A1, c1, A2, c2, A3, c3, rfl, h1, _, _⟩ := h'; have H1 := qq h1; clear h hl h1
 go_enter Tryz.func54, Tryz.ntmps54
 go_upto_region 1 with fail
 obtain ⟨y1, x_, ey1, ex_⟩ : ∃ y1 x_, y1 = w.alloc (.cells #[.bool cl, .slice A1 32 c1, .slice A2 32 c2, .slice A3 32 c3, .int .i64 a, .int .i64 b0] 60) ∧ x_ = w.heap.size := ⟨_, _, rfl, rfl⟩; rw [<- ey1, <- ex_]; have hb1 : Below w.heap.size w y1 := by rw [ey1]; exact below_alloc1 _ _
 have BX := qq (show Blk y1 x_ 60 #[.bool cl, .slice A1 32 c1, .slice A2 32 c2, .slice A3 32 c3, .int .i64 a, .int .i64 b0] by rw [ey1, ex_]; exact blk_new1_0 _ _ _); have HC := qs HC hb1; have HB := qs HB hb1; have H1 := qs H1 hb1; have RW := qq hb1; clear hb1 ey1 ex_
 go_wp2_with (refine wpList_load_part rfl 60 _ rfl x_ 0 60 [] [.bool cl, .slice A1 32 c1, .slice A2 32 c2, .slice A3 32 c3, .int .i64 a, .int .i64 b0] [] _ rfl BX.out rfl Tryz.underlying60 rfl infoCh ?_)
 refine (chValid_any _ cl s a b0 ha hb _ HC.out).mono ?_; rintro e y2 ⟨rfl, hb2⟩; have BX := qs BX hb2; have HB := qs HB hb2; have H1 := qs H1 hb2; have RW := qt RW hb2; clear hb2
 go_upto_region 3 with fail
 refine mono_start (fun _ => True) [pv (.pointer (some ⟨x_, 1, none⟩)), pv (.slice A1 32 c1), pv (.string q), pv (.slice Ab n cb), mv (fun v u => ∃ A' c', v = .slice A' (14 + q.size + 34) c' ∧ Bytes u A' (14 + q.size + 34) c' (labelL exS q.data.toList l)), pv (.int .i64 32), mv (fun v u => ∃ A', v = .tuple #[.slice A' 32 32, .int .i64 0] ∧ Bytes u A' 32 32 (expandL s (labelL exS q.data.toList l) 32)), mv (fun v u => ∃ A', v = .slice A' 32 32 ∧ Bytes u A' 32 32 (expandL s (labelL exS q.data.toList l) 32)), pv (.int .i64 0), mv (fun v u => ∃ A', v = .slice A' 32 32 ∧ Bytes u A' 32 32 (expandL s (labelL exS q.data.toList l) 32)), pv (.int .i64 0)] (by kernel_rfl) (by kernel_rfl) (fun OPS AV AL K w0 hO hA hL hK hb0 hz => ?_); refine step_pv (d := (some 13)) (hO.out 0 _ rfl) rfl rfl (fun wq hw => ?_) ?_
 · clear hO hA hL hK
   go_simp; try first | with_reducible rfl | assumption | decide
 try simp only [qp, qn]
 refine step_pg (d := (some 14)) (hO.out 1 _ rfl) rfl rfl (fun wq hw gt => ?_) ?_
 · have hx : Below y2.heap.size y2 wq := hb0.trans (hw.mono hb0.size); have c1 := (BX.out.stays hx).cell 1; clear gt hO hA hL hK
   go_simp; try first | with_reducible rfl | assumption | decide
 try simp only [qp, qn]
 refine step_pv (d := (some 15)) (hO.out 2 _ rfl) rfl rfl (fun wq hw => ?_) ?_
 · clear hO hA hL hK
   go_simp; try first | with_reducible rfl | assumption | decide
 try simp only [qp, qn]
 refine step_pv (d := (some 16)) (hO.out 3 _ rfl) rfl rfl (fun wq hw => ?_) ?_
 · clear hO hA hL hK
   go_simp; try first | with_reducible rfl | assumption | decide
 try simp only [qp, qn]
 refine step_mc (d := (some 17)) (hO.out 4 _ rfl) rfl rfl (fun wq hw gt => ?_) (fun v_4 x_4 => ?_)
 · have hx : Below y2.heap.size y2 wq := hb0.trans (hw.mono hb0.size); refine ⟨_, _, ?_, (label_any ⟨#[115, 101, 99, 116, 105, 109, 101, 32, 101, 120, 112, 111, 114, 116]⟩ q l Ab n cb _ (HB.out.stays hx) (by decide) hq).mono (fun e q' h => ?_)⟩
   · clear gt hO hA hL hK
     go_simp
   obtain ⟨A', c', rfl, h1, h2⟩ := h; exact ⟨_, rfl, ⟨A', c', rfl, h1⟩, h2⟩
 try simp only [qp, qn]
 refine step_pv (d := (some 18)) (hO.out 5 _ rfl) rfl rfl (fun wq hw => ?_) ?_
 · clear hO hA hL hK
   go_simp; try first | with_reducible rfl | assumption | decide
 try simp only [qp, qn]
 refine step_mc (d := (some 19)) (hO.out 6 _ rfl) rfl rfl (fun wq hw gt => ?_) (fun v_6 x_6 => ?_)
 · have hx : Below y2.heap.size y2 wq := hb0.trans (hw.mono hb0.size); obtain ⟨⟨A', c', rfl, hB'⟩, hbk⟩ := (gt 4 (hA.out 6 4 (by kernel_rfl))); refine ⟨_, _, ?_, (expand_any s _ A1 32 c1 A' _ c' 32 _ (H1.out.stays hx) (hB'.stays hbk) (by omega) (by decide)).mono (fun e q' h => ?_)⟩
   · clear gt hO hA hL hK
     go_simp
   obtain ⟨A2, rfl, h1, h2⟩ := h; exact ⟨_, rfl, ⟨A2, rfl, h1⟩, h2⟩
 try simp only [qp, qn]
 refine step_mv (d := (some 20)) (hO.out 7 _ rfl) rfl rfl (fun wq hw gt => ?_) (fun v_7 x_7 => ?_)
 · have hx : Below y2.heap.size y2 wq := hb0.trans (hw.mono hb0.size); obtain ⟨⟨A', rfl, hB'⟩, hbk⟩ := (gt 6 (hA.out 7 6 (by kernel_rfl))); refine ⟨_, _, ?_, ⟨A', rfl, hB'.stays hbk⟩, Below.refl _ _⟩; clear gt hO hA hL hK
   go_simp; try first | with_reducible rfl | rfl
 try simp only [qp, qn]
 refine step_pg (d := (some 21)) (hO.out 8 _ rfl) rfl rfl (fun wq hw gt => ?_) ?_
 · have hx : Below y2.heap.size y2 wq := hb0.trans (hw.mono hb0.size); obtain ⟨⟨A', rfl, hB'⟩, hbk⟩ := (gt 6 (hA.out 8 6 (by kernel_rfl))); clear gt hO hA hL hK
   go_simp; try first | with_reducible rfl | assumption | decide
 try simp only [qp, qn]
 refine step_mv (d := (some 8)) (hO.out 9 _ rfl) rfl rfl (fun wq hw gt => ?_) (fun v_9 x_9 => ?_)
 · have hx : Below y2.heap.size y2 wq := hb0.trans (hw.mono hb0.size); obtain ⟨⟨A', rfl, hB'⟩, hbk⟩ := (gt 7 (hA.out 9 7 (by kernel_rfl))); refine ⟨_, _, ?_, ⟨A', rfl, hB'.stays hbk⟩, Below.refl _ _⟩; clear gt hO hA hL hK
   go_simp; try first | with_reducible rfl | rfl
 try simp only [qp, qn]
 refine step_pv (d := (some 9)) (hO.out 10 _ rfl) rfl rfl (fun wq hw => ?_) ?_
 · clear hO hA hL hK
   go_simp; try first | with_reducible rfl | assumption | decide
 try simp only [qp, qn]
 refine fun wq hw gt => hK.out _ _ ?_
 obtain ⟨⟨A7, rfl, h7⟩, hb7⟩ := (gt 9 (hL.out 9 (by kernel_rfl))); have hx : Below y2.heap.size y2 wq := hb0.trans (hw.mono hb0.size); have H7 := qq (h7.stays hb7); clear gt hO hA hL hK h7 hb7 hb0 hz hw; refine wpAnyH_done (by kernel_rfl) ?_ _; go_wp2
 go_returns
 exact ⟨A7, rfl, H7.out, RW.out.trans (hx.mono RW.out.size)⟩
theorem rd_mark (W : World) (l : List UInt8) (m : Nat × Nat) (E : TypeId) (hl : l.length <= maxLen) : Bytes (W.alloc (.cells (l.map byteV).toArray E m)) (some ⟨W.heap.size, 0, none⟩) l.length l.length l := by
 refine ⟨by rw [List.length_map]; omega, Nat.le_refl _, hl, fun i u hu => ⟨_, _, rfl, ?_⟩⟩; rw [cell_of_row _ _ (0 + i) _ E m (heap_alloc_new W _), Nat.zero_add]
 simpa using hu
theorem with_any (cl : Bool) (A : Option Addr) (c : Nat) (s : List UInt8) (w : World) (hk : Bytes w A 32 c s) : Calls Tryz.prog 102 #[.bool cl, .slice A 32 c] w fun e w' => ∃ A2 c2 A3 c3, e = .returned (.agg #[.bool cl, .slice A 32 c, .slice A2 32 c2, .slice A3 32 c3, .int .i64 0, .int .i64 0]) ∧ Bytes w' A2 32 c2 (sendK cl s) ∧ Bytes w' A3 32 c3 (recvK cl s) ∧ Below w.heap.size w w' := by
 have HK := qq hk; clear hk
 go_enter Tryz.func102, Tryz.ntmps102
 go_upto_region 1 with fail
 obtain ⟨y1, r_, ey1, er_⟩ : ∃ y1 r_, y1 = w.alloc (.cells chZ.toArray 60) ∧ r_ = w.heap.size := ⟨_, _, rfl, rfl⟩; rw [show (#[.bool false, .slice none 0 0, .slice none 0 0, .slice none 0 0, .int .i64 0, .int .i64 0] : Array Value) = chZ.toArray from rfl]; rw [<- ey1, <- er_]; have BR := qq (show Blk y1 r_ 60 chZ.toArray by rw [ey1, er_]; exact blk_new1_0 _ _ _); have RW := qq (show Below w.heap.size w y1 by rw [ey1]; exact below_alloc1 _ _); have wr_ : w.heap.size <= r_ := by omega
 clear ey1 er_; have hcv := fun (W : World) => Lib.run_convert_bytes_const (P := Tryz.prog) W 27 5 #[.int .u8 115, .int .u8 101, .int .u8 99, .int .u8 116, .int .u8 105, .int .u8 109, .int .u8 101, .int .u8 32, .int .u8 117, .int .u8 112] 10 10 Tryz.underlying27 Tryz.underlying5
 go_wp2_with fail
 clear hcv; have SB := qq (show Bytes (y1.alloc (.cells #[.int .u8 115, .int .u8 101, .int .u8 99, .int .u8 116, .int .u8 105, .int .u8 109, .int .u8 101, .int .u8 32, .int .u8 117, .int .u8 112] 5 (10, 11))) (some ⟨y1.heap.size, 0, none⟩) 10 10 upS from rd_mark y1 upS (10, 11) 5 (by decide)); have hbx : Below y1.heap.size y1 (y1.alloc (.cells #[.int .u8 115, .int .u8 101, .int .u8 99, .int .u8 116, .int .u8 105, .int .u8 109, .int .u8 101, .int .u8 32, .int .u8 117, .int .u8 112] 5 (10, 11))) := below_alloc1 _ _; refine (refExpand_any s upS A 32 c _ 10 10 32 _ (HK.out.stays (RW.out.trans (hbx.mono RW.out.size))) SB.out (by decide) (by decide)).mono ?_; rintro e y2 ⟨U, cU, rfl, h1, hb1⟩; have hx : Below y1.heap.size y1 y2 := hbx.trans (hb1.mono (by simp)); have HU := qq h1; have BR := qs BR hx; have RW := qt RW hx; clear hbx h1 hb1 hx SB; have hcv := fun (W : World) => Lib.run_convert_bytes_const (P := Tryz.prog) W 27 5 #[.int .u8 115, .int .u8 101, .int .u8 99, .int .u8 116, .int .u8 105, .int .u8 109, .int .u8 101, .int .u8 32, .int .u8 100, .int .u8 111, .int .u8 119, .int .u8 110] 12 12 Tryz.underlying27 Tryz.underlying5
 go_wp2_with fail
 clear hcv; have SB := qq (show Bytes (y2.alloc (.cells #[.int .u8 115, .int .u8 101, .int .u8 99, .int .u8 116, .int .u8 105, .int .u8 109, .int .u8 101, .int .u8 32, .int .u8 100, .int .u8 111, .int .u8 119, .int .u8 110] 5 (12, 13))) (some ⟨y2.heap.size, 0, none⟩) 12 12 downS from rd_mark y2 downS (12, 13) 5 (by decide)); have hbx : Below y2.heap.size y2 (y2.alloc (.cells #[.int .u8 115, .int .u8 101, .int .u8 99, .int .u8 116, .int .u8 105, .int .u8 109, .int .u8 101, .int .u8 32, .int .u8 100, .int .u8 111, .int .u8 119, .int .u8 110] 5 (12, 13))) := below_alloc1 _ _; refine (refExpand_any s downS A 32 c _ 12 12 32 _ (HK.out.stays (RW.out.trans (hbx.mono RW.out.size))) SB.out (by decide) (by decide)).mono ?_; rintro e y3 ⟨D, cD, rfl, h1, hb1⟩; have hx : Below y2.heap.size y2 y3 := hbx.trans (hb1.mono (by simp)); have HD := qq h1; have BR := qs BR hx; have HU := qs HU hx; have RW := qt RW hx; clear hbx h1 hb1 hx SB; have HU : Hid (Bytes y3 U 32 cU (upK s)) := HU; have HD : Hid (Bytes y3 D 32 cD (downK s)) := HD
 cases cl with
 | true =>
  go_wp2_with (refine wpList_store_part rfl 60 _ _ rfl r_ 0 60 [] chZ [] [.bool true, .slice A 32 c, .slice U 32 cU, .slice D 32 cD, .int .i64 0, .int .i64 0] rfl rfl BR.out rfl rfl infoCh (by simp [Value.oneCell']) ?_; intro y8 D8 G8; rw [List.append_nil, List.nil_append] at D8)
  refine bodyPost_ret (results_whole rfl _ _ r_ _ _ _ rfl D8 Tryz.underlying60 rfl infoCh) rfl ⟨U, cU, D, cD, rfl, HU.out.kept G8 (off_block HU.out BR.out rfl), HD.out.kept G8 (off_block HD.out BR.out rfl), RW.out.grown G8 RW.out.size (fun k hk => by cases hk; exact wr_)⟩
 | false =>
  go_wp2_with (refine wpList_store_part rfl 60 _ _ rfl r_ 0 60 [] chZ [] [.bool false, .slice A 32 c, .slice D 32 cD, .slice U 32 cU, .int .i64 0, .int .i64 0] rfl rfl BR.out rfl rfl infoCh (by simp [Value.oneCell']) ?_; intro y8 D8 G8; rw [List.append_nil, List.nil_append] at D8)
  refine bodyPost_ret (results_whole rfl _ _ r_ _ _ _ rfl D8 Tryz.underlying60 rfl infoCh) rfl ⟨D, cD, U, cU, rfl, HD.out.kept G8 (off_block HD.out BR.out rfl), HU.out.kept G8 (off_block HU.out BR.out rfl), RW.out.grown G8 RW.out.size (fun k hk => by cases hk; exact wr_)⟩
def chS (hello sec : List UInt8) : List UInt8 := macL (sumL hello) sec
theorem begin20_any (cl : Bool) (A : Option Addr) (c : Nat) (sec : List UInt8) (A2 : Option Addr) (n2 c2 : Nat) (hello : List UInt8) (w : World) (hk : Bytes w A 32 c sec) (hh : Bytes w A2 n2 c2 hello) : Calls Tryz.prog 48 #[.bool cl, .slice A 32 c, .slice A2 n2 c2] w fun e w' => ∃ u, e = .returned (.tuple #[u, .int .i64 0]) ∧ Chan w' u cl (chS hello sec) 0 0 ∧ Below w.heap.size w w' := by
 have HK := qq hk; have HH := qq hh; clear hk hh
 go_enter Tryz.func48, Tryz.ntmps48
 go_upto_region 1 with fail
 obtain ⟨y1, r_, ey1, er_⟩ : ∃ y1 r_, y1 = w.alloc (.cells chZ.toArray 60) ∧ r_ = w.heap.size := ⟨_, _, rfl, rfl⟩; rw [show (#[.bool false, .slice none 0 0, .slice none 0 0, .slice none 0 0, .int .i64 0, .int .i64 0] : Array Value) = chZ.toArray from rfl]; rw [<- ey1, <- er_]; have BR := qq (show Blk y1 r_ 60 chZ.toArray by rw [ey1, er_]; exact blk_new1_0 _ _ _); have RW := qq (show Below w.heap.size w y1 by rw [ey1]; exact below_alloc1 _ _); have wr_ : w.heap.size <= r_ := by omega
 clear ey1 er_
 go_wp2_with fail
 refine (refSum_any hello A2 n2 c2 _ (HH.out.stays RW.out)).mono ?_; rintro e y2 ⟨A3, c3, rfl, ho, hb⟩; have H3 : Hid (Bytes y2 A3 32 c3 (sumL hello)) := own_rd ho; have BR := qs BR hb; have RW := qt RW hb; clear ho hb
 go_wp2_with fail
 refine (refExtract_any (sumL hello) sec A3 32 c3 A 32 c _ H3.out (HK.out.stays RW.out) (by decide)).mono ?_; rintro e y3 ⟨A4, c4, rfl, h4, hb⟩; have H4 : Hid (Bytes y3 A4 32 c4 (chS hello sec)) := h4; have BR := qs BR hb; have RW := qt RW hb; clear h4 hb
 go_wp2_with fail
 refine (with_any cl A4 c4 (chS hello sec) _ H4.out).mono ?_; rintro e y4 ⟨A5, c5, A6, c6, rfl, h5, h6, hb⟩; have H4 := qs H4 hb; have H5 := qq h5; have H6 := qq h6; have BR := qs BR hb; have RW := qt RW hb; clear h5 h6 hb
 go_wp2_with (refine wpList_store_part rfl 60 _ _ rfl r_ 0 60 [] chZ [] [.bool cl, .slice A4 32 c4, .slice A5 32 c5, .slice A6 32 c6, .int .i64 0, .int .i64 0] rfl rfl BR.out rfl rfl infoCh (by simp [Value.oneCell']) ?_; intro y8 D8 G8; rw [List.append_nil, List.nil_append] at D8)
 refine bodyPost_ret (results_whole2 rfl _ _ r_ _ _ _ _ rfl rfl D8 Tryz.underlying60 rfl infoCh) rfl ⟨_, rfl, ⟨A4, c4, A5, c5, A6, c6, rfl, H4.out.kept G8 (off_block H4.out BR.out rfl), H5.out.kept G8 (off_block H5.out BR.out rfl), H6.out.kept G8 (off_block H6.out BR.out rfl)⟩, RW.out.grown G8 RW.out.size (fun k hk => by cases hk; exact wr_)⟩
theorem Chan.list {w : World} {v : Value} {cl : Bool} {s : List UInt8} {a b : Int} (h : Chan w v cl s a b) : ∃ vs : List Value, v = .agg vs.toArray ∧ vs.length = 6 ∧ ∀ u ∈ vs, u.oneCell' = true := by
 obtain ⟨A1, c1, A2, c2, A3, c3, e, _⟩ := h; exact ⟨[.bool cl, .slice A1 32 c1, .slice A2 32 c2, .slice A3 32 c3, .int .i64 a, .int .i64 b], e, rfl, by simp [Value.oneCell']⟩
theorem Chan.kept2 {w w2 w3 : World} {v : Value} {cl : Bool} {s : List UInt8} {a b : Int} {g g2 : Nat} {T T2 : TypeId} (h : Chan w v cl s a b) (hB : Blk w g T chZ.toArray) (hB2 : Blk w2 g2 T2 chZ.toArray) (G : w.grownBy w2 (some g)) (G2 : w2.grownBy w3 (some g2)) : Chan w3 v cl s a b := by
 obtain ⟨A1, c1, A2, c2, A3, c3, e, h1, h2, h3⟩ := h; have k1 := h1.kept G (off_block h1 hB rfl); have k2 := h2.kept G (off_block h2 hB rfl); have k3 := h3.kept G (off_block h3 hB rfl); exact ⟨A1, c1, A2, c2, A3, c3, e, k1.kept G2 (off_block k1 hB2 rfl), k2.kept G2 (off_block k2 hB2 rfl), k3.kept G2 (off_block k3 hB2 rfl)⟩
def endS (z : Nat) : List UInt8 := chS (wbytesL z 20) (wbytesL z 32)
theorem ends_any (z : Nat) (hz : z <= 1000000000000) (w : World) : Calls Tryz.prog 17 #[.int .i64 z] w fun e w' => ∃ u v, e = .returned (.tuple #[u, v]) ∧ Chan w' u true (endS z) 0 0 ∧ Chan w' v false (endS z) 0 0 ∧ Below w.heap.size w w' := by
 go_enter Tryz.func17, Tryz.ntmps17
 go_upto_region 1 with fail
 obtain ⟨y1, r1, r2, ey1, er1, er2⟩ : ∃ y1 r1 r2, y1 = (w.alloc (.cells chZ.toArray 60)).alloc (.cells chZ.toArray 60) ∧ r1 = w.heap.size ∧ r2 = w.heap.size + 1 := ⟨_, _, _, rfl, rfl, rfl⟩; rw [show (#[.bool false, .slice none 0 0, .slice none 0 0, .slice none 0 0, .int .i64 0, .int .i64 0] : Array Value) = chZ.toArray from rfl]; rw [<- ey1, <- er2, <- er1]; have R1 := qq (show Blk y1 r1 60 chZ.toArray by rw [ey1, er1]; exact blk_new2_0 _ _ _ _ _); have R2 := qq (show Blk y1 r2 60 chZ.toArray by rw [ey1, er2]; exact blk_new2_1 _ _ _ _ _); have RW := qq (show Below w.heap.size w y1 by rw [ey1]; exact below_alloc2 _ _ _); have wr1 : w.heap.size <= r1 := by omega
 have wr2 : w.heap.size <= r2 := by omega
 have r12 : r1 < r2 := by omega
 clear ey1 er1 er2
 go_wp2_with fail
 refine (key_any z _ (by omega)).mono ?_; rintro e k1a ⟨A1, c1, rfl, h1, hb1⟩; have K1 := qq h1; have R1 := qs R1 hb1; have R2 := qs R2 hb1; have RW := qt RW hb1; clear h1 hb1
 go_wp2_with fail
 refine (wbytes_any z 20 _ (by omega) (by omega) (by decide)).mono ?_; rintro e k1b ⟨B1, d1, rfl, h1, hb1⟩; have H1 := qq h1; have R1 := qs R1 hb1; have R2 := qs R2 hb1; have K1 := qs K1 hb1; have RW := qt RW hb1; clear h1 hb1
 go_wp2_with fail
 refine (begin20_any true A1 c1 (wbytesL z 32) B1 20 d1 (wbytesL z 20) _ K1.out H1.out).mono ?_; rintro e k1c ⟨u, rfl, hu, hb1⟩; have R1 := qs R1 hb1; have R2 := qs R2 hb1; have RW := qt RW hb1; obtain ⟨va, rfl, val, va1⟩ := hu.list; have CA := qq hu; clear hu hb1 K1 H1
 go_upto_region 2 with (refine wpList_store_part rfl 60 _ _ rfl k1c.heap.size 0 60 [] chZ [] va rfl rfl (Blk.new _ _ _) rfl (by rw [val]; rfl) (by rw [val]; exact infoCh) va1 ?_; intro y2 D G; rw [List.append_nil, List.nil_append] at D)
 have hb1 := below_new_store G; have lr11 := R1.out.lt; have lr21 := R2.out.lt; obtain ⟨a_, eb⟩ : ∃ a_, a_ = k1c.heap.size := ⟨_, rfl⟩; rw [<- eb] at D lr11 lr21 ⊢; have BA := qq D; have R1 := qs R1 hb1; have R2 := qs R2 hb1; have CA := qs CA hb1; have RW := qt RW hb1; clear D G hb1 eb
 go_wp2_with fail
 refine (key_any z _ (by omega)).mono ?_; rintro e k2a ⟨A2, c2, rfl, h1, hb1⟩; have K2 := qq h1; have R1 := qs R1 hb1; have R2 := qs R2 hb1; have BA := qs BA hb1; have CA := qs CA hb1; have RW := qt RW hb1; clear h1 hb1
 go_wp2_with fail
 refine (wbytes_any z 20 _ (by omega) (by omega) (by decide)).mono ?_; rintro e k2b ⟨B2, d2, rfl, h1, hb1⟩; have H2 := qq h1; have R1 := qs R1 hb1; have R2 := qs R2 hb1; have BA := qs BA hb1; have CA := qs CA hb1; have K2 := qs K2 hb1; have RW := qt RW hb1; clear h1 hb1
 go_wp2_with fail
 refine (begin20_any false A2 c2 (wbytesL z 32) B2 20 d2 (wbytesL z 20) _ K2.out H2.out).mono ?_; rintro e k2c ⟨u, rfl, hu, hb1⟩; have R1 := qs R1 hb1; have R2 := qs R2 hb1; have BA := qs BA hb1; have CA := qs CA hb1; have RW := qt RW hb1; obtain ⟨vb, rfl, vbl, vb1⟩ := hu.list; have CB := qq hu; clear hu hb1 K2 H2
 go_upto_region 3 with (refine wpList_store_part rfl 60 _ _ rfl k2c.heap.size 0 60 [] chZ [] vb rfl rfl (Blk.new _ _ _) rfl (by rw [vbl]; rfl) (by rw [vbl]; exact infoCh) vb1 ?_; intro y4 D G; rw [List.append_nil, List.nil_append] at D)
 have hb1 := below_new_store G; have lr12 := R1.out.lt; have lr22 := R2.out.lt; obtain ⟨b_, eb⟩ : ∃ b_, b_ = k2c.heap.size := ⟨_, rfl⟩; rw [<- eb] at D lr12 lr22 ⊢; have BB := qq D; have R1 := qs R1 hb1; have R2 := qs R2 hb1; have BA := qs BA hb1; have CA := qs CA hb1; have CB := qs CB hb1; have RW := qt RW hb1; clear D G hb1 eb; have hx : Below y4.heap.size y4 y4.drew := (Below.refl _ _).drew; refine take_start (S := fun w' => Blk w' a_ 60 va.toArray ∧ Blk w' b_ 60 vb.toArray) (by kernel_rfl) ?hPQ1 ⟨BA.out.stays hx, BB.out.stays hx⟩ (fun hPQ hHeld => ?rest1)
 case hPQ1 => (repeat (with_reducible first | refine PQ.then ?_ | refine PQ.block ?_)); exact fun _ _ d _ _ h => by cases d <;> exact h
 refine take_val (i := 0) (d := (some 24)) (v := .agg va.toArray) rfl rfl (by kernel_rfl) (by kernel_rfl) (by kernel_rfl) hPQ (by rfl) (fun wq hSw => exec_load_part 60 _ rfl a_ 0 60 [] va [] _ rfl (by rw [List.append_nil, List.nil_append]; exact hSw.1) rfl Tryz.underlying60 rfl (by rw [val]; exact infoCh)) hHeld ?_; try simp only [qp, qn]
 refine take_val (i := 1) (d := (some 25)) (v := .agg vb.toArray) rfl rfl (by kernel_rfl) (by kernel_rfl) (by kernel_rfl) hPQ (by rfl) (fun wq hSw => exec_load_part 60 _ rfl b_ 0 60 [] vb [] _ rfl (by rw [List.append_nil, List.nil_append]; exact hSw.2) rfl Tryz.underlying60 rfl (by rw [vbl]; exact infoCh)) hHeld ?_; try simp only [qp, qn]
 have R1 := qs R1 hx; have R2 := qs R2 hx; have CA := qs CA hx; have CB := qs CB hx; have RW := qt RW hx; refine take_store_part (j := 2) rfl rfl (by kernel_rfl) rfl 60 _ _ rfl r1 0 60 [] chZ [] va rfl rfl R1.out rfl (by rw [val]; rfl) (by rw [val]; exact infoCh) va1 (fun w2 hg => ⟨hHeld.1.grown hg (by intro e; injection e with e; omega), hHeld.2.grown hg (by intro e; injection e with e; omega)⟩) (fun w5 D5 G5 => ?_); rw [List.append_nil, List.nil_append] at D5; have hH5 : Blk w5 a_ 60 va.toArray ∧ Blk w5 b_ 60 vb.toArray := ⟨hHeld.1.grown G5 (by intro e; injection e with e; omega), hHeld.2.grown G5 (by intro e; injection e with e; omega)⟩; refine take_store_part (j := 3) rfl rfl (by kernel_rfl) rfl 60 _ _ rfl r2 0 60 [] chZ [] vb rfl rfl (R2.out.grown G5 (by intro e; injection e with e; omega)) rfl (by rw [vbl]; rfl) (by rw [vbl]; exact infoCh) vb1 (fun w2 hg => ⟨hH5.1.grown hg (by intro e; injection e with e; omega), hH5.2.grown hg (by intro e; injection e with e; omega)⟩) (fun w6 D6 G6 => ?_); rw [List.append_nil, List.nil_append] at D6; refine wpAnyH_done (by kernel_rfl) ?_ _
 go_wp2_with fail
 refine bodyPost_ret (results_cells2 rfl _ _ r1 r2 _ _ _ _ _ _ rfl rfl (D5.grown G6 (by intro e; injection e with e; omega)) D6 Tryz.underlying60 rfl (by rw [val]; exact infoCh) Tryz.underlying60 rfl (by rw [vbl]; exact infoCh)) rfl ⟨_, _, rfl, (CA.out.kept2 R1.out (R2.out.grown G5 (by intro e; injection e with e; omega)) G5 G6), (CB.out.kept2 R1.out (R2.out.grown G5 (by intro e; injection e with e; omega)) G5 G6), ?_⟩; have r5 := RW.out.grown G5 RW.out.size (fun k hk => by cases hk; exact wr1); exact r5.grown G6 r5.size (fun k hk => by cases hk; exact wr2)
theorem valid19_any (v : Value) (ks : List (Int × List UInt8)) (w : World) (h : RingV w v ks) (hg : RingG ks) : Calls Tryz.prog 62 #[v] w fun e w' => e = .returned (.bool true) ∧ Below w.heap.size w w' := by
 obtain ⟨A, n, c, rfl, hF⟩ := h; have HL := qq hF.len; have HG := qq hg; have hle := hF.le; have hcap := hF.cap; have hg1 : 1 <= n := by have := hg.1; have := hF.len; omega
 have hg4 : n <= 4 := by have := hg.2.1; have := hF.len; omega
 have nI1 : ¬ (n : Int) < 1 := by omega
 have nI4 : ¬ (4 : Int) < (n : Int) := by omega
 obtain ⟨b, off, A0, n0, c0, eA, _⟩ := hF.at_ (show 0 < n by omega); subst eA; have HF := qq hF; clear hF hg
 go_enter Tryz.func62, Tryz.ntmps62
 go_upto_region 1 with fail
 obtain ⟨y1, x_, ey1, ex_⟩ : ∃ y1 x_, y1 = w.alloc (.cells #[.slice (some ⟨b, off, none⟩) n c] 25) ∧ x_ = w.heap.size := ⟨_, _, rfl, rfl⟩; rw [<- ey1, <- ex_]; have hb1 : Below w.heap.size w y1 := by rw [ey1]; exact below_alloc1 _ _
 have BX := qq (show Blk y1 x_ 25 #[.slice (some ⟨b, off, none⟩) n c] by rw [ey1, ex_]; exact blk_new1_0 _ _ _); have RW := qq hb1; clear hb1 ey1 ex_; have cX := BX.out.cell 0
 go_upto_region 4 with fail
 clear cX
 go_loopw [3] (fun s wr => ∃ (i : Nat), s = .int .i64 i ∧ Hid (i <= n) ∧ Hid (Blk wr x_ 25 #[.slice (some ⟨b, off, none⟩) n c]) ∧ Below w.heap.size w wr) (fun s _ => match s with | .int _ i => (n - i).toNat | _ => 0)
 case atStart => exact ⟨0, rfl, Nat.zero_le _, BX.out, RW.out⟩
 case round =>
  clear BX RW; obtain ⟨i, rfl, HI, BX, hb⟩ := hrel; have RW := qq hb; clear hb; have cX := BX.out.cell 0
  by_cases hi : i < n
  · have hiI : (i : Int) < (n : Int) := by omega
    obtain ⟨b', off', A2, n2, c2, eA, hc0, hc1, hb2⟩ := (HF.out.stays RW.out).at_ hi; injection eA with eA
    injection eA with eb eo
    subst eb eo; have hgi := HG.out.2.2.1 i (by rw [HL.out]; exact hi); have hn2 : n2 = 32 := by have := hb2.len; omega
    subst hn2; obtain ⟨qi, hqi⟩ : ∃ qi, off + i * 2 = qi := ⟨_, rfl⟩; rw [hqi] at hc0 hc1; obtain ⟨ti, hti⟩ : ∃ ti, fldT ks i = ti := ⟨_, rfl⟩; have HT := qq hti; have HQ := qq hqi; rw [hti] at hc0 hgi; have t0 : ¬ ti < 0 := by omega
    have t1 : ¬ 4294967295 < ti := by omega
    have hi0 : (0 : Int) <= (i : Int) := by omega
    have hci := qq hc0; have hci2 := qq hc1; clear hti hgi hb2
    go_upto_region 9 with fail
    clear cX hc0 hc1 t0 t1
    go_loopw [4] (fun s wz => ∃ (k : Nat), s = .int .i64 k ∧ Hid (k <= i) ∧ Hid (Blk wz x_ 25 #[.slice (some ⟨b, off, none⟩) n c]) ∧ Hid (wz.cell? ⟨b, qi, none⟩ = some (.int .i64 ti)) ∧ Below w.heap.size w wz) (fun s _ => match s with | .int _ k => (i - k).toNat | _ => 0)
    case atStart => exact ⟨0, rfl, Nat.zero_le _, BX.out, hci.out, RW.out⟩
    case round =>
    clear BX RW hci hci2; obtain ⟨k, rfl, HK, BX, hci, hb⟩ := hrel; have RW := qq hb; clear hb
    by_cases hk : k < i
    · have hkI : (k : Int) < (i : Int) := by omega
      have hkn : (k : Int) < (n : Int) := by omega
      have hk0 : (0 : Int) <= (k : Int) := by omega
      obtain ⟨b', off', A3, n3, c3, eA, hc0, _, _⟩ := (HF.out.stays RW.out).at_ (show k < n by omega); injection eA with eA
      injection eA with eb eo
      subst eb eo; obtain ⟨qk, hqk⟩ : ∃ qk, off + k * 2 = qk := ⟨_, rfl⟩; rw [hqk] at hc0; have HQk := qq hqk; obtain ⟨tk, htk⟩ : ∃ tk, fldT ks k = tk := ⟨_, rfl⟩; rw [htk] at hc0; have hne : tk ≠ ti := by rw [<- htk, <- HT.out]; exact HG.out.2.2.2 k i hk (by rw [HL.out]; exact hi)
      have hnb : (tk == ti) = false := by simpa using hne
      have hck := qq hc0; have aqk : off + k * 2 = qk := HQk.out; have aqi : off + i * 2 = qi := HQ.out; clear hc0 htk hqk
      go_upto_region 11 with fail
      refine mono_start (fun _ => True) [pv (.pointer (some ⟨x_, 0, none⟩)), pv (.slice (some ⟨b, off, none⟩) n c), pv (.int .i64 k), pv (.pointer (some ⟨b, qk, none⟩)), pv (.pointer (some ⟨b, qk, none⟩)), pv (.int .i64 tk), pv (.pointer (some ⟨x_, 0, none⟩)), pv (.slice (some ⟨b, off, none⟩) n c), pv (.int .i64 i), pv (.pointer (some ⟨b, qi, none⟩)), pv (.pointer (some ⟨b, qi, none⟩)), pv (.int .i64 ti), pv (.bool false)] (by kernel_rfl) (by kernel_rfl) (fun OPS AV AL K w0 hO hA hL hK hb0 hz => ?_); refine step_pv (d := (some 53)) (hO.out 0 _ rfl) rfl rfl (fun wq hw => ?_) ?_
      · clear hO hA hL hK
        go_simp; try first | with_reducible rfl | assumption | decide
      try simp only [qp, qn]
      refine step_pg (d := (some 54)) (hO.out 1 _ rfl) rfl rfl (fun wq hw gt => ?_) ?_
      · have hx : Below wr.heap.size wr wq := hb0.trans (hw.mono hb0.size); have c1 := (BX.out.stays hx).cell 0; clear gt hO hA hL hK
        go_simp; try first | with_reducible rfl | assumption | decide
      try simp only [qp, qn]
      refine step_pv (d := (some 55)) (hO.out 2 _ rfl) rfl rfl (fun wq hw => ?_) ?_
      · clear hO hA hL hK
        go_simp; try first | with_reducible rfl | assumption | decide
      try simp only [qp, qn]
      refine step_pv (d := (some 56)) (hO.out 3 _ rfl) rfl rfl (fun wq hw => ?_) ?_
      · clear hO hA hL hK
        go_simp; try first | with_reducible rfl | assumption | decide
      try simp only [qp, qn]
      refine step_pv (d := (some 57)) (hO.out 4 _ rfl) rfl rfl (fun wq hw => ?_) ?_
      · clear hO hA hL hK
        go_simp; try first | with_reducible rfl | assumption | decide
      try simp only [qp, qn]
      refine step_pg (d := (some 58)) (hO.out 5 _ rfl) rfl rfl (fun wq hw gt => ?_) ?_
      · have hx : Below wr.heap.size wr wq := hb0.trans (hw.mono hb0.size); have c1 := cell_stays hx hck.out; clear gt hO hA hL hK
        go_simp; try first | with_reducible rfl | assumption | decide
      try simp only [qp, qn]
      refine step_pv (d := (some 59)) (hO.out 6 _ rfl) rfl rfl (fun wq hw => ?_) ?_
      · clear hO hA hL hK
        go_simp; try first | with_reducible rfl | assumption | decide
      try simp only [qp, qn]
      refine step_pg (d := (some 60)) (hO.out 7 _ rfl) rfl rfl (fun wq hw gt => ?_) ?_
      · have hx : Below wr.heap.size wr wq := hb0.trans (hw.mono hb0.size); have c1 := (BX.out.stays hx).cell 0; clear gt hO hA hL hK
        go_simp; try first | with_reducible rfl | assumption | decide
      try simp only [qp, qn]
      refine step_pv (d := (some 61)) (hO.out 8 _ rfl) rfl rfl (fun wq hw => ?_) ?_
      · clear hO hA hL hK
        go_simp; try first | with_reducible rfl | assumption | decide
      try simp only [qp, qn]
      refine step_pv (d := (some 62)) (hO.out 9 _ rfl) rfl rfl (fun wq hw => ?_) ?_
      · clear hO hA hL hK
        go_simp; try first | with_reducible rfl | assumption | decide
      try simp only [qp, qn]
      refine step_pv (d := (some 63)) (hO.out 10 _ rfl) rfl rfl (fun wq hw => ?_) ?_
      · clear hO hA hL hK
        go_simp; try first | with_reducible rfl | assumption | decide
      try simp only [qp, qn]
      refine step_pg (d := (some 64)) (hO.out 11 _ rfl) rfl rfl (fun wq hw gt => ?_) ?_
      · have hx : Below wr.heap.size wr wq := hb0.trans (hw.mono hb0.size); have c1 := cell_stays hx hci.out; clear gt hO hA hL hK
        go_simp; try first | with_reducible rfl | assumption | decide
      try simp only [qp, qn]
      refine step_pv (d := (some 65)) (hO.out 12 _ rfl) rfl rfl (fun wq hw => ?_) ?_
      · clear hO hA hL hK
        go_simp; try first | with_reducible rfl | assumption | decide
      try simp only [qp, qn]
      refine fun wq hw gt => hK.out _ _ ?_
      have hx : Below wr.heap.size wr wq := hb0.trans (hw.mono hb0.size); clear gt hO hA hL hK; refine wpAnyH_done (by kernel_rfl) ?_ _; have BX := qs BX hx; have hci := qq (cell_stays hx hci.out); have RW := qt RW hx; clear hx hw hz hb0; go_wp2
      go_roundw
      case rel => exact ⟨k + 1, by simp, qq (by omega), BX.out, hci, RW.out⟩
      case measure => simp; omega
    · have ek : k = i := Nat.le_antisymm (show k <= i from HK.out) (Nat.le_of_not_lt hk); subst ek; go_wp2
      go_roundw
      case rel => exact ⟨k + 1, by simp, qq (by omega), BX.out, RW.out⟩
      case measure => simp; omega
  · go_wp2; go_ret; exact ⟨rfl, RW.out⟩
def startS : List UInt8 := [115, 101, 99, 116, 105, 109, 101, 32, 115, 116, 97, 114, 116]
def nextS : List UInt8 := [115, 101, 99, 116, 105, 109, 101, 32, 110, 101, 120, 116]
def startK (s : List UInt8) : List UInt8 := expandL s startS 32
def nextK (s : List UInt8) : List UInt8 := expandL s nextS 32
theorem infoRing : (Tryz.prog.info? 25).map (·.size) = some 1 := by kernel_rfl
theorem fldL_one {w : World} {b : Nat} {T : TypeId} {k : Int} {A : Option Addr} {n c : Nat} {l : List UInt8} (hB : Blk w b T #[.int .i64 k, .slice A n c]) (h : Bytes w A n c l) : FldL w (some ⟨b, 0, none⟩) 1 1 [(k, l)] := by
 refine ⟨[.int .i64 k, .slice A n c], ⟨rfl, Nat.le_refl _, by decide, fun i u hu => ⟨b, 0, rfl, ?_⟩⟩, rfl, fun i f hf => ?_⟩
 · rw [Nat.zero_add, hB.cell]; simpa using hu
 · match i, hf with
   | 0, hf => simp at hf; subst hf; exact ⟨A, n, c, rfl, rfl, h⟩
theorem start19_any (id : Nat) (hid : id <= 1000000) (A : Option Addr) (c : Nat) (s : List UInt8) (w : World) (hk : Bytes w A 32 c s) : Calls Tryz.prog 22 #[.int .i64 id, .slice A 32 c] w fun e w' => ∃ u, e = .returned (.tuple #[u, .int .i64 0]) ∧ RingV w' u [((id : Int), startK s)] ∧ Below w.heap.size w w' := by
 have HK := qq hk; have i0 : ¬ (id : Int) < 0 := by omega
 have i1 : ¬ (4294967295 : Int) < (id : Int) := by omega
 clear hk hid
 go_enter Tryz.func22, Tryz.ntmps22
 go_upto_region 1 with fail
 obtain ⟨y1, r_, ey1, er_⟩ : ∃ y1 r_, y1 = w.alloc (.cells #[.slice none 0 0] 25) ∧ r_ = w.heap.size := ⟨_, _, rfl, rfl⟩; rw [<- ey1, <- er_]; have hb1 : Below w.heap.size w y1 := by rw [ey1]; exact below_alloc1 _ _
 have BR := qq (show Blk y1 r_ 25 #[.slice none 0 0] by rw [ey1, er_]; exact blk_new1_0 _ _ _); have wr_ : w.heap.size <= r_ := by omega
 have HK := qs HK hb1; have RW := qq hb1; clear hb1 ey1 er_; have hcv := fun (W : World) => Lib.run_convert_bytes_const (P := Tryz.prog) W 27 5 #[.int .u8 115, .int .u8 101, .int .u8 99, .int .u8 116, .int .u8 105, .int .u8 109, .int .u8 101, .int .u8 32, .int .u8 115, .int .u8 116, .int .u8 97, .int .u8 114, .int .u8 116] 13 13 Tryz.underlying27 Tryz.underlying5
 go_wp2_with fail
 clear hcv; have SB := qq (show Bytes (y1.alloc (.cells #[.int .u8 115, .int .u8 101, .int .u8 99, .int .u8 116, .int .u8 105, .int .u8 109, .int .u8 101, .int .u8 32, .int .u8 115, .int .u8 116, .int .u8 97, .int .u8 114, .int .u8 116] 5 (13, 14))) (some ⟨y1.heap.size, 0, none⟩) 13 13 startS from rd_mark y1 startS (13, 14) 5 (by decide)); have hbx : Below y1.heap.size y1 (y1.alloc (.cells #[.int .u8 115, .int .u8 101, .int .u8 99, .int .u8 116, .int .u8 105, .int .u8 109, .int .u8 101, .int .u8 32, .int .u8 115, .int .u8 116, .int .u8 97, .int .u8 114, .int .u8 116] 5 (13, 14))) := below_alloc1 _ _; refine (refExpand_any s startS A 32 c _ 13 13 32 _ (HK.out.stays hbx) SB.out (by decide) (by decide)).mono ?_; rintro e y2 ⟨U, cU, rfl, h1, hb1⟩; have hx : Below y1.heap.size y1 y2 := hbx.trans (hb1.mono (by simp)); have HU := qq h1; have BR := qs BR hx; have RW := qt RW hx; clear hbx h1 hb1 hx SB; have HU : Hid (Bytes y2 U 32 cU (startK s)) := HU
 go_wp2_with (refine wpList_store_part rfl 25 _ _ rfl r_ 0 25 [] [.slice none 0 0] [] [.slice (some ⟨y2.heap.size, 0, none⟩) 1 1] rfl rfl (BR.out.stays (below_alloc1 _ _)) rfl rfl infoRing (by simp [Value.oneCell']) ?_; intro y3 D3 G3; rw [List.append_nil, List.nil_append] at D3)
 have hb2 : Below y2.heap.size y2 (y2.alloc (.cells #[.int .i64 id, .slice U 32 cU] 126)) := below_alloc1 _ _; have BRl := BR.out.lt; have DB : Blk y3 y2.heap.size 126 #[.int .i64 id, .slice U 32 cU] := (Blk.new y2 126 #[.int .i64 id, .slice U 32 cU]).grown G3 (by intro e; injection e with e; omega); have hU := (HU.out.stays hb2).kept G3 (off_block (HU.out.stays hb2) (BR.out.stays hb2) rfl); have R3 := RW.out.trans (hb2.mono RW.out.size); refine bodyPost_ret (results_whole2 rfl _ _ r_ _ _ _ _ rfl rfl D3 Tryz.underlying25 rfl infoRing) rfl ⟨_, rfl, ⟨_, _, _, rfl, fldL_one DB hU⟩, R3.grown G3 R3.size (fun k hk => by cases hk; exact wr_)⟩
theorem totX_mod : ∀ fs : List (Int × List UInt8), totX fs % 4 = 0
 | [] => rfl
 | f :: fs => by
  have h := totX_mod fs; have h2 := (exSz_ge f.2.length).2.2; have e : totX (f :: fs) = totX [f] + totX fs := totX_append [f] fs; have e2 : totX [f] = exSz f.2.length := by have := totX_flat [f]; simp [encX_length] at this; omega
  omega
def protB (key : List UInt8) (h : HdT) (fs ss : List (Int × List UInt8)) (nonce : List UInt8) : List UInt8 :=
 (h.bytes ++ fs.flatMap encX) ++ encX (1028, gB nonce (sealB key [h.bytes ++ fs.flatMap encX, nonce] (ss.flatMap encX)))
theorem authLen (key : List UInt8) (ls : List (List UInt8)) (nonce : List UInt8) (hn : nonce.length = 16) (ss : List (Int × List UInt8)) : (gB nonce (sealB key ls (ss.flatMap encX))).length = 36 + totX ss := by
 have h := totX_mod ss; have h2 := totX_flat ss; rw [gB_length hn (m := 16 + totX ss) (by omega) (by rw [sealB_length, h2])]; omega
theorem authSz (t : Nat) (h : t % 4 = 0) : exSz (36 + t) = 40 + t := by unfold exSz; omega
theorem protB_length (key : List UInt8) (h : HdT) (fs ss : List (Int × List UInt8)) (nonce : List UInt8) (hn : nonce.length = 16) : (protB key h fs ss nonce).length = 88 + totX fs + totX ss := by
 unfold protB; rw [List.length_append, List.length_append, h.len, totX_flat, encX_length, authLen _ _ _ hn, authSz _ (totX_mod ss)]; omega
set_option maxHeartbeats 8000000 in
theorem protect_any (h : HdT) (hk : h.ok) (Ak : Option Addr) (ck : Nat) (key : List UInt8) (A : Option Addr) (n c : Nat) (fs : List (Int × List UInt8)) (As : Option Addr) (ns cs : Nat) (ss : List (Int × List UInt8)) (g : Bool) (An : Option Addr) (cn : Nat) (nonce : List UInt8) (w : World) (hkey : Bytes w Ak 32 ck key) (hv : FldL w A n c fs) (hs : FldL w As ns cs ss) (hn : Bytes w An 16 cn nonce)
    (e1 : errX fs = 0) (e2 : errX ss = 0) (n1 : n <= 23) (n2 : ns <= 24) (hsum : totX fs + totX ss <= 1192) (hf : findX fs 1028 n = []) :
    Calls Tryz.prog 41 #[.slice Ak 32 ck, pkA h (.slice A n c) (.slice As ns cs) (.bool g), .slice An 16 cn] w fun e w' => ∃ A' c', e = .returned (.tuple #[.slice A' (88 + totX fs + totX ss) c', .int .i64 0]) ∧ Bytes w' A' (88 + totX fs + totX ss) c' (protB key h fs ss nonce) ∧ Below w.heap.size w w' := by
 have HO := qq (fun (W : World) (hW : FldL W A n c fs) => pOpen_any h hk A n c fs As ns cs g W hW e1 (by omega) (by omega)); have HXS : Hid (encodeX ss = (ss.flatMap encX, 0)) := encodeX_ok e2 (by have := hs.len; omega) (by omega); have HDS : Hid (∀ k, (fldD ss k).length <= 100000) := fun k => by
  by_cases hk' : k < ss.length
  · have := (sizeX_ok (errX_ok ss e2 (ss[k]) (List.getElem_mem hk'))).2.2.1; have h9 := (exSz_ge (ss[k]).2.length).1; have e : fldD ss k = (ss[k]).2 := by simp [fldD, List.getD, hk']
    rw [e]; omega
  · have e : fldD ss k = [] := by unfold fldD; rw [List.getD, List.getElem?_eq_none (by omega)]; rfl
    rw [e]; exact Nat.zero_le _
 have HTS : Hid ((ss.flatMap encX).length = totX ss) := totX_flat ss; have HTF : Hid ((fs.flatMap encX).length = totX fs) := totX_flat fs; have HM := qq (totX_mod ss); have HFD := qq hf; have HK := qq hkey; have HF := qq hv; have HS := qq hs; have HN := qq hn; have HNL := qq hn.len; obtain ⟨PB, hPB⟩ : ∃ PB, protB key h fs ss nonce = PB := ⟨_, rfl⟩; rw [hPB]; obtain ⟨b, hb⟩ : ∃ b, h.bytes ++ fs.flatMap encX = b := ⟨_, rfl⟩; obtain ⟨S, hS⟩ : ∃ S, ss.flatMap encX = S := ⟨_, rfl⟩; have HPB : Hid (b ++ encX (1028, gB nonce (sealB key [b, nonce] S)) = PB) := by rw [<- hPB, <- hb, <- hS]; rfl
 have HBL : Hid (b.length = 48 + totX fs) := by unfold Hid; rw [<- hb, List.length_append, h.len, totX_flat]
 have HAL : Hid ((gB nonce (sealB key [b, nonce] S)).length = 36 + totX ss) := by rw [<- hS]; exact authLen _ _ _ hn.len ss
 rw [hb] at HO; rw [hS] at HXS HTS; obtain ⟨tf, htf⟩ : ∃ tf, totX fs = tf := ⟨_, rfl⟩; obtain ⟨ts, hts⟩ : ∃ ts, totX ss = ts := ⟨_, rfl⟩; rw [htf] at hsum HTF HBL HO ⊢; rw [hts] at hsum HTS HAL HM ⊢; have AUTH : Hid (encodeX [(1028, gB nonce (sealB key [b, nonce] S))] = (encX (1028, gB nonce (sealB key [b, nonce] S)), 0)) := by
  have hz : exSz (gB nonce (sealB key [b, nonce] S)).length = 40 + ts := by rw [HAL.out]; exact authSz _ HM.out
  have h1 := encodeX_ok (fs := [((1028 : Int), gB nonce (sealB key [b, nonce] S))]) (errX_all _ (fun f hf => by
   simp only [List.mem_singleton] at hf; subst hf; refine ⟨show (0 : Int) <= 1028 by decide, show (1028 : Int) <= 65535 by decide, ?_⟩
   show exSz (gB nonce (sealB key [b, nonce] S)).length <= 1232
   omega)) (by simp) (by have := totX_flat [((1028 : Int), gB nonce (sealB key [b, nonce] S))]; simp [encX_length] at this; omega)
  rw [h1]; show (_, _) = (_, _); simp
 obtain ⟨gb, hgb⟩ : ∃ gb, gB nonce (sealB key [b, nonce] S) = gb := ⟨_, rfl⟩; have HGB := qq hgb; rw [hgb] at HPB HAL AUTH; clear hkey hv hs hn e1 e2 hf hPB hb hS htf hts hgb hk; have nI : ¬ (n : Int) ≥ 24 := by omega
 obtain ⟨x0, x1, x2, x3, x4, x5, x6, x7, x8, x9, x10, x11, x12⟩ := h; simp only [pkA] at HO ⊢
 go_enter Tryz.func41, Tryz.ntmps41
 go_upto_region 1 with fail
 obtain ⟨y1, x_, ey1, ex_⟩ : ∃ y1 x_, y1 = w.alloc (.cells #[.int .i64 x0, .int .i64 x1, .int .i64 x2, .int .i64 x3, .int .i64 x4, .int .i64 x5, .int .u32 x6, .int .u32 x7, .int .u32 x8, .int .u64 x9, .int .u64 x10, .int .u64 x11, .int .u64 x12, .slice A n c, .slice As ns cs, .bool g] 51) ∧ x_ = w.heap.size := ⟨_, _, rfl, rfl⟩; rw [<- ey1, <- ex_]; have hb1 : Below w.heap.size w y1 := by rw [ey1]; exact below_alloc1 _ _
 have BX := qq (show Blk y1 x_ 51 #[.int .i64 x0, .int .i64 x1, .int .i64 x2, .int .i64 x3, .int .i64 x4, .int .i64 x5, .int .u32 x6, .int .u32 x7, .int .u32 x8, .int .u64 x9, .int .u64 x10, .int .u64 x11, .int .u64 x12, .slice A n c, .slice As ns cs, .bool g] by rw [ey1, ex_]; exact Blk.new _ _ _); have HK := qs HK hb1; have HF := qs HF hb1; have HS := qs HS hb1; have HN := qs HN hb1; have RW := qq hb1; clear hb1 ey1 ex_
 go_wp2_with fail
 refine (nonced_any _).mono ?_; rintro e y2 ⟨rfl, hy⟩; subst hy
 go_wp2_with (refine wpList_load_part rfl 51 _ rfl x_ 0 51 [] [.int .i64 x0, .int .i64 x1, .int .i64 x2, .int .i64 x3, .int .i64 x4, .int .i64 x5, .int .u32 x6, .int .u32 x7, .int .u32 x8, .int .u64 x9, .int .u64 x10, .int .u64 x11, .int .u64 x12, .slice A n c, .slice As ns cs, .bool g] [] _ rfl BX.out rfl Tryz.underlying51 rfl infoPk ?_)
 refine (HO.out _ HF.out).mono ?_; rintro e y2 ⟨A1, c1, rfl, hB1, hx⟩; have HB1 := qq hB1; have BX := qs BX hx; have HK := qs HK hx; have HF := qs HF hx; have HS := qs HS hx; have HN := qs HN hx; have RW := qt RW hx; clear hx hB1 HO; have kc1 := BX.out.cell 14; have kc2 := BX.out.cell 13
 go_wp2_with fail
 refine (encode_any As ns cs ss _ HS.out HDS.out).mono ?_; rw [HXS.out]; rintro e y3 ⟨A2, n2', c2, rfl, hB2, hx⟩; have hn2 : n2' = ts := by have := hB2.len; rw [HTS.out] at this; exact this.symm
 subst hn2; have HB2 := qq hB2; have BX := qs BX hx; have HB1 := qs HB1 hx; have HK := qs HK hx; have HF := qs HF hx; have HN := qs HN hx; have RW := qt RW hx; clear hx hB2 kc1 kc2; have kc2 := BX.out.cell 13
 go_wp2_with fail
 refine (find_any A n c fs 1028 _ HF.out (by omega)).mono ?_; rintro e y4 ⟨A3, m3, c3, rfl, hi, hx⟩; have hm3 : m3 = 0 := by have := hi.len; rw [HFD.out] at this; exact this.symm
 subst hm3; have BX := qs BX hx; have HB1 := qs HB1 hx; have HB2 := qs HB2 hx; have HK := qs HK hx; have HN := qs HN hx; have RW := qt RW hx; clear hx hi kc2; have kc2 := BX.out.cell 13
 go_wp2_with fail
 refine (seal_any key Ak ck _ 2 2 [b, nonce] A2 n2' c2 S _ (HK.out.stays (below_alloc1 _ _)) (lists_made2 (E := 27) HB1.out HN.out) (HB2.out.stays (below_alloc1 _ _)) (by decide) (by decide) (listAt2 (by rw [HBL.out]; omega) (by rw [HNL.out]; decide)) (by omega)).mono ?_; rintro e y5 ⟨A5, c5, rfl, hB5, _, hb⟩; have hx : Below y4.heap.size y4 y5 := (below_alloc1 _ _).trans (hb.mono (by simp)); have HB5 := qq hB5; have HB1 := qs HB1 hx; have HN := qs HN hx; have RW := qt RW hx; clear hx hb hB5 HK HB2 BX kc2
 go_wp2_with fail
 refine (gBytes_any An 16 cn nonce A5 (16 + n2') c5 _ _ HN.out HB5.out (by decide) (by omega)).mono ?_; rw [HGB.out]; rintro e y6 ⟨A6, n6, c6, rfl, hB6, hx⟩; have hn6 : n6 = 36 + n2' := by have := hB6.len; rw [HAL.out] at this; exact this.symm
 have HB6 := qq hB6; have HB1 := qs HB1 hx; have RW := qt RW hx; clear hx hB6 HB5 HN hn6
 go_wp2_with fail
 obtain ⟨y7, o_, ey7, eo_⟩ : ∃ y7 o_, y7 = y6.alloc (.cells #[.int .i64 1028, .slice A6 n6 c6] 97) ∧ o_ = y6.heap.size := ⟨_, _, rfl, rfl⟩; rw [<- ey7, <- eo_]; have hx : Below y6.heap.size y6 y7 := by rw [ey7]; exact below_alloc1 _ _
 have HL7 := qq (fldL_one (show Blk y7 o_ 97 #[.int .i64 1028, .slice A6 n6 c6] by rw [ey7, eo_]; exact Blk.new _ _ _) (HB6.out.stays hx)); have HB1 := qs HB1 hx; have RW := qt RW hx; clear hx ey7 eo_ HB6; refine (encode_any _ 1 1 _ _ HL7.out (fun k => ?hd)).mono ?_
 case hd =>
  match k with
  | 0 => show gb.length <= 100000; rw [HAL.out]; omega
  | k + 1 => exact Nat.zero_le _
 rw [AUTH.out]; rintro e y8 ⟨A8, n8, c8, rfl, hB8, hx⟩; have hn8 : n8 = 40 + n2' := by have := hB8.len; rw [encX_length, HAL.out, authSz _ HM.out] at this; exact this.symm
 have HB8 := qq hB8; have HB1 := qs HB1 hx; have RW := qt RW hx; clear hx hB8 HL7; subst hn8; have tI : ¬ ((48 + tf : Nat) : Int) + ((40 + n2' : Nat) : Int) > 1280 := by omega
 have tI2 : ¬ 1280 < ((48 + tf : Nat) : Int) + ((40 + n2' : Nat) : Int) := by omega
 go_wp2_with fail
 refine (join_any _ _ _ [b, encX (1028, gb)] _ (lists_made2 HB1.out HB8.out) (88 + tf + n2') (by rw [List.flatten_cons, List.flatten_cons, List.flatten_nil, List.append_nil, List.length_append, HBL.out, encX_length, HAL.out, authSz _ HM.out]; omega) (by omega)).mono ?_; rintro e y9 ⟨A9, c9, rfl, ho, hb⟩; have hx : Below y8.heap.size y8 y9 := (below_alloc1 _ _).trans (hb.mono (by simp)); have h2 := own_rd ho; rw [show [b, encX (1028, gb)].flatten = PB by rw [<- HPB.out]; simp] at h2; have HR := qq (show Bytes y9 A9 (88 + tf + n2') c9 PB from h2); have RW := qt RW hx; clear hx ho hb h2; go_wp2
 go_returns
 exact ⟨A9, c9, rfl, HR.out, RW.out⟩
def pzL : List Value := [.int .i64 0, .int .i64 0, .int .i64 0, .int .i64 0, .int .i64 0, .int .i64 0, .int .u32 0, .int .u32 0, .int .u32 0, .int .u64 0, .int .u64 0, .int .u64 0, .int .u64 0, .slice none 0 0, .slice none 0 0, .bool false]
def hzL : List Value := [.int .i64 0, .int .i64 0, .int .i64 0, .int .i64 0, .int .i64 0, .int .i64 0, .int .u32 0, .int .u32 0, .int .u32 0, .int .u64 0, .int .u64 0, .int .u64 0, .int .u64 0]
theorem flX_places (fs : List (Int × List UInt8)) (h : errX fs = 0) (h1 : fs.length <= 24) (h2 : totX fs <= 1232) : readX (fs.flatMap encX) = (0, placesX 0 fs) := by
 refine readX_enc (fun f hf => ?_) h1 h2; have := sizeX_ok (errX_ok fs h f hf); exact ⟨this.1, this.2.1, this.2.2.1⟩
theorem decL_places (fs : List (Int × List UInt8)) (h : errX fs = 0) (h1 : fs.length <= 24) (h2 : totX fs <= 1232) : decL (readX (fs.flatMap encX)) = fs.map padX := by
 rw [flX_places fs h h1 h2]; unfold decL flX; rw [if_pos rfl]; exact placesX_map 0 fs
def noFld : List Value -> Bool
 | [] => true
 | .int .i64 _ :: .slice _ _ _ :: _ => false
 | _ :: r => noFld r
theorem noFld_tail {x : Value} {r : List Value} (h : noFld (x :: r) = true) : noFld r = true := by
 unfold noFld at h
 split at h
 · rename_i e; cases e
 · cases h
 · rename_i e; cases e; exact h
theorem noFld_spec : ∀ {cs : List Value} {i : Nat} {t : Int} {A : Option Addr} {n c : Nat}, noFld cs = true -> cs[i]? = some (.int .i64 t) -> cs[i + 1]? ≠ some (.slice A n c)
 | [], i, _, _, _, _, _, h1, _ => by simp at h1
 | x :: r, 0, t, A, n, c, h, h1, h2 => by
  injection h1 with h1
  subst h1
  cases r with
  | nil => simp at h2
  | cons y r =>
   have h2 : y = .slice A n c := by simpa using h2
   subst h2; simp [noFld] at h
 | x :: r, i + 1, t, A, n, c, h, h1, h2 => noFld_spec (cs := r) (i := i) (noFld_tail h) (by simpa using h1) (by simpa using h2)
theorem FldL.keptN {w w' : World} {A : Option Addr} {n c g : Nat} {T : TypeId} {cs : Array Value} {fs : List (Int × List UInt8)} (h : FldL w A n c fs) (hB : Blk w g T cs) (h1 : noByte cs.toList = true) (h2 : noFld cs.toList = true) (hg : w.grownBy w' (some g)) : FldL w' A n c fs := by
 cases n with
 | zero =>
  obtain ⟨vs, hr, hl, hf⟩ := h; have hv : vs = [] := List.eq_nil_of_length_eq_zero (by have := hr.1; omega); subst hv; refine ⟨[], ⟨hr.1, hr.2.1, hr.2.2.1, fun i u hu => by simp at hu⟩, hl, fun i f hfi => ?_⟩; have : fs = [] := List.eq_nil_of_length_eq_zero hl; subst this; simp at hfi
 | succ n =>
  obtain ⟨b, off, A', n', c', rfl, hc0, hc1, _⟩ := h.at_ (Nat.succ_pos n); have hbg : b ≠ g := by
   intro e; subst e; rw [hB.cell, <- Array.getElem?_toList] at hc0 hc1; exact noFld_spec h2 hc0 hc1
  have hlt := World.block_lt_of_cell? w _ hc0; have hbl := hg.block b hlt (fun e => hbg (Option.some.inj e)); obtain ⟨vs, hr, hl, hf⟩ := h; refine ⟨vs, ⟨hr.1, hr.2.1, hr.2.2.1, fun i u hu => ?_⟩, hl, fun i f hfi => ?_⟩
  · obtain ⟨b', off', e, hc⟩ := hr.2.2.2 i u hu
    cases e
    exact ⟨b, off, rfl, (World.cell?_of_block (a := ⟨b, off + i, none⟩) hbl).trans hc⟩
  · obtain ⟨A2, n2, c2, e1, e2, e3⟩ := hf i f hfi; exact ⟨A2, n2, c2, e1, e2, e3.kept hg (off_block e3 hB h1)⟩
set_option maxHeartbeats 8000000 in
theorem pRead_any (h : HdT) (hk : h.ok) (fs : List (Int × List UInt8)) (A : Option Addr) (n c : Nat) (w : World) (hb : Bytes w A n c (h.bytes ++ fs.flatMap encX)) (e1 : errX fs = 0) (n1 : fs.length <= 24) (n2 : totX fs <= 1232) : Calls Tryz.prog 42 #[.slice A n c] w fun e w' => ∃ A' n' c', e = .returned (.tuple #[pkA h (.slice A' n' c') (.slice none 0 0) (.bool false), .int .i64 0]) ∧ FldL w' A' n' c' (fs.map padX) ∧ Below w.heap.size w w' := by
 have HB := qq hb; have hnl : n = 48 + totX fs := by have := hb.len; rw [List.length_append, h.len, totX_flat] at this; exact this.symm
 have HDE := qq (fun (W : World) (hW : Bytes W A n c (h.bytes ++ fs.flatMap encX)) => hdDec_any h hk (fs.flatMap encX) A n c W hW (by omega) (totX fs) (totX_flat fs)); have HDC : Hid (∀ (A : Option Addr) (n c : Nat) (W : World), Bytes W A n c (fs.flatMap encX) -> Calls Tryz.prog 60 #[.slice A n c] W fun e w' => ∃ A' m c', e = .returned (.tuple #[.slice A' m c', .int .i64 0]) ∧ FldL w' A' m c' (fs.map padX) ∧ Below W.heap.size W w') := by
  intro A n c W hW; have h9 := decode_any A n c _ W hW; rw [decL_places fs e1 n1 n2, flX_places fs e1 n1 n2] at h9; exact h9
 clear hb e1 n1 n2 hnl; obtain ⟨tf, htf⟩ : ∃ tf, totX fs = tf := ⟨_, rfl⟩; rw [htf] at HDE; clear htf hk; obtain ⟨x0, x1, x2, x3, x4, x5, x6, x7, x8, x9, x10, x11, x12⟩ := h; simp only [pkA] at HDE ⊢
 go_enter Tryz.func42, Tryz.ntmps42
 go_upto_region 1 with fail
 obtain ⟨y1, r_, ey1, er_⟩ : ∃ y1 r_, y1 = w.alloc (.cells pzL.toArray 51) ∧ r_ = w.heap.size := ⟨_, _, rfl, rfl⟩; rw [show (#[.int .i64 0, .int .i64 0, .int .i64 0, .int .i64 0, .int .i64 0, .int .i64 0, .int .u32 0, .int .u32 0, .int .u32 0, .int .u64 0, .int .u64 0, .int .u64 0, .int .u64 0, .slice none 0 0, .slice none 0 0, .bool false] : Array Value) = pzL.toArray from rfl]; rw [<- ey1, <- er_]; have hb1 : Below w.heap.size w y1 := by rw [ey1]; exact below_alloc1 _ _
 have BR := qq (show Blk y1 r_ 51 pzL.toArray by rw [ey1, er_]; exact Blk.new _ _ _); have wr_ : w.heap.size <= r_ := by rw [er_]; exact Nat.le_refl _
 have HB := qs HB hb1; have RW := qq hb1; clear hb1 ey1 er_
 go_wp2_with fail
 refine (HDE.out _ HB.out).mono ?_; rintro e y2 ⟨A1, c1, rfl, hB1, hx⟩; have HB1 := qq hB1; have BR := qs BR hx; have RW := qt RW hx; clear hx hB1 HB HDE
 go_wp2_with (rw [show (#[.int .i64 0, .int .i64 0, .int .i64 0, .int .i64 0, .int .i64 0, .int .i64 0, .int .u32 0, .int .u32 0, .int .u32 0, .int .u64 0, .int .u64 0, .int .u64 0, .int .u64 0] : Array Value) = hzL.toArray from rfl]; refine wpList_store_part rfl 48 _ _ rfl y2.heap.size 0 48 [] hzL [] [.int .i64 x0, .int .i64 x1, .int .i64 x2, .int .i64 x3, .int .i64 x4, .int .i64 x5, .int .u32 x6, .int .u32 x7, .int .u32 x8, .int .u64 x9, .int .u64 x10, .int .u64 x11, .int .u64 x12] rfl rfl (Blk.new _ _ _) rfl rfl infoHd (by simp [Value.oneCell']) ?_; intro y3 D3 G3; have G3 := below_new_store G3; rw [List.append_nil, List.nil_append] at D3)
 obtain ⟨h_, eh_⟩ : ∃ h_, y2.heap.size = h_ := ⟨_, rfl⟩; rw [eh_] at D3 ⊢; have BH := qq D3; have BR := qs BR G3; have HB1 := qs HB1 G3; have RW := qt RW G3; clear G3 D3 eh_; refine (HDC.out A1 tf c1 _ HB1.out).mono ?_; rintro e y4 ⟨A4, n4, c4, rfl, hF, hx⟩; have HF := qq hF; have BR := qs BR hx; have BH := qs BH hx; have RW := qt RW hx; clear hx hF HB1
 go_wp2_with (first | (refine wpList_load_part rfl 48 _ rfl h_ 0 48 [] [.int .i64 x0, .int .i64 x1, .int .i64 x2, .int .i64 x3, .int .i64 x4, .int .i64 x5, .int .u32 x6, .int .u32 x7, .int .u32 x8, .int .u64 x9, .int .u64 x10, .int .u64 x11, .int .u64 x12] [] _ rfl BH.out rfl Tryz.underlying48 rfl infoHd ?_) | (refine wpList_store_part rfl 51 _ _ rfl r_ 0 51 [] pzL [] [.int .i64 x0, .int .i64 x1, .int .i64 x2, .int .i64 x3, .int .i64 x4, .int .i64 x5, .int .u32 x6, .int .u32 x7, .int .u32 x8, .int .u64 x9, .int .u64 x10, .int .u64 x11, .int .u64 x12, .slice A4 n4 c4, .slice none 0 0, .bool false] rfl rfl BR.out rfl rfl infoPk (by simp [Value.oneCell']) ?_; intro y5 D5 G5; rw [List.append_nil, List.nil_append] at D5))
 refine bodyPost_ret (results_whole2 rfl _ _ r_ _ _ _ _ rfl rfl D5 Tryz.underlying51 rfl infoPk) rfl ⟨A4, n4, c4, rfl, ?_, RW.out.grown G5 RW.out.size (fun k hk => by cases hk; exact wr_)⟩; exact FldL.keptN HF.out BR.out rfl rfl G5
theorem FldL.cutTo {w : World} {A : Option Addr} {n c : Nat} {fs : List (Int × List UInt8)} (h : FldL w A n c fs) (k k' : Nat) (hk : k <= n) (h1 : k <= k') (h2 : k' <= c) : FldL w A k k' (fs.take k) := by
 obtain ⟨vs, hr, hl, hf⟩ := h; have hvl : vs.length = n * 2 := hr.1; refine ⟨vs.take (k * 2), ⟨by rw [List.length_take]; omega, h1, by have := hr.2.2.1; omega, fun i u hu => ?_⟩, by rw [List.length_take]; omega, fun i f hfi => ?_⟩
 · rw [List.getElem?_take] at hu
   split at hu
   · exact hr.2.2.2 i u hu
   · cases hu
 · rw [List.getElem?_take] at hfi
   split at hfi
   · rename_i hik; obtain ⟨A', n', c', e1, e2, e3⟩ := hf i f hfi; exact ⟨A', n', c', by rw [List.getElem?_take, if_pos (by omega)]; exact e1, by rw [List.getElem?_take, if_pos (by omega)]; exact e2, e3⟩
   · cases hfi
theorem pOpen1_any (k : Int) (A : Option Addr) (n c : Nat) (w : World) : Calls Tryz.prog 57 #[.agg #[.int .i64 k, .slice A n c]] w fun e w' => e = .returned (.bool (decide (k = 1028))) ∧ Below w.heap.size w w' := by
 go_enter Tryz.func57, Tryz.ntmps57
 go_wp2; go_ret; exact ⟨rfl, by go_grown⟩
theorem findX_none {fs : List (Int × List UInt8)} {kd : Int} (h : findX fs kd fs.length = []) (i : Nat) (hi : i < fs.length) : fldT fs i ≠ kd := by
 intro e; have hm : i ∈ findX fs kd fs.length := by unfold findX; rw [List.mem_filter]; exact ⟨List.mem_range.2 hi, decide_eq_true e⟩
 rw [h] at hm
 cases hm
theorem fldT_map_padX (fs : List (Int × List UInt8)) (t : List (Int × List UInt8)) (i : Nat) (hi : i < fs.length) : fldT (fs.map padX ++ t) i = fldT fs i := by
 unfold fldT; rw [List.getD, List.getD, List.getElem?_append_left (by simpa using hi), List.getElem?_map, List.getElem?_eq_getElem hi]
 rfl
theorem protB_eq (key : List UInt8) (h : HdT) (fs ss : List (Int × List UInt8)) (nonce : List UInt8) : protB key h fs ss nonce = h.bytes ++ (fs ++ [((1028 : Int), gB nonce (sealB key [h.bytes ++ fs.flatMap encX, nonce] (ss.flatMap encX)))]).flatMap encX := by
 unfold protB; rw [List.flatMap_append, List.append_assoc]
 congr 2
 simp
set_option maxHeartbeats 8000000 in
theorem prOpen_any (h : HdT) (hk : h.ok) (Ak : Option Addr) (ck : Nat) (key : List UInt8) (A : Option Addr) (n c : Nat) (fs ss : List (Int × List UInt8)) (nonce : List UInt8) (w : World) (hkey : Bytes w Ak 32 ck key) (hb : Bytes w A n c (protB key h fs ss nonce)) (hnn : nonce.length = 16) (e1 : errX fs = 0) (e2 : errX ss = 0) (n1 : fs.length <= 23) (n2 : ss.length <= 24) (hsum : totX fs + totX ss <= 1192) (hf : findX fs 1028 fs.length = []) :
    Calls Tryz.prog 20 #[.slice Ak 32 ck, .slice A n c] w fun e w' => ∃ A1 m1 c1 A2 m2 c2, e = .returned (.tuple #[pkA h (.slice A1 m1 c1) (.slice A2 m2 c2) (.bool true), .int .i64 0]) ∧ FldL w' A1 m1 c1 (fs.map padX) ∧ FldL w' A2 m2 c2 (ss.map padX) ∧ Below w.heap.size w w' := by
 have hlen := hb.len; rw [protB_length _ _ _ _ _ hnn] at hlen; obtain ⟨bb, hbb⟩ : ∃ bb, h.bytes ++ fs.flatMap encX = bb := ⟨_, rfl⟩; have HHB : Hid (bb.length = 48 + totX fs) := by unfold Hid; rw [<- hbb, List.length_append, h.len, totX_flat]
 have HPF : Hid (protB key h fs ss nonce = bb ++ encX (1028, gB nonce (sealB key [bb, nonce] (ss.flatMap encX)))) := by unfold Hid; rw [<- hbb]; rfl
 have HAL := qq (authLen key [bb, nonce] nonce hnn ss); have hz4 : exSz (gB nonce (sealB key [bb, nonce] (ss.flatMap encX))).length = 40 + totX ss := by rw [HAL.out]; exact authSz _ (totX_mod ss)
 have HRD : Hid (∀ W, Bytes W A n c (protB key h fs ss nonce) -> Calls Tryz.prog 42 #[.slice A n c] W fun e w' => ∃ A' n' c', e = .returned (.tuple #[pkA h (.slice A' n' c') (.slice none 0 0) (.bool false), .int .i64 0]) ∧ FldL w' A' n' c' (fs.map padX ++ [((1028 : Int), gB nonce (sealB key [bb, nonce] (ss.flatMap encX)))]) ∧ Below W.heap.size W w') := by
  intro W hW; rw [protB_eq, hbb] at hW; have h9 := pRead_any h hk _ A n c W hW (by rw [errX_append _ _ e1]; exact errX_all _ (fun f hf => by
   simp only [List.mem_singleton] at hf; subst hf; refine ⟨show (0 : Int) <= 1028 by decide, show (1028 : Int) <= 65535 by decide, ?_⟩
   show exSz (gB nonce (sealB key [bb, nonce] (ss.flatMap encX))).length <= 1232
   omega)) (by simp; omega) (by
    have := totX_flat [((1028 : Int), gB nonce (sealB key [bb, nonce] (ss.flatMap encX)))]; rw [totX_append]; simp [encX_length] at this
    omega)
  rw [List.map_append, List.map_singleton] at h9; rw [show padX ((1028 : Int), gB nonce (sealB key [bb, nonce] (ss.flatMap encX))) = ((1028 : Int), gB nonce (sealB key [bb, nonce] (ss.flatMap encX))) by
   unfold padX; simp only [HAL.out, authSz _ (totX_mod ss)]; rw [show 40 + totX ss - (4 + (36 + totX ss)) = 0 by omega]
   simp] at h9
  exact h9
 have HDC : Hid (∀ (A : Option Addr) (n c : Nat) (W : World), Bytes W A n c (ss.flatMap encX) -> Calls Tryz.prog 60 #[.slice A n c] W fun e w' => ∃ A' m c', e = .returned (.tuple #[.slice A' m c', .int .i64 0]) ∧ FldL w' A' m c' (ss.map padX) ∧ Below W.heap.size W w') := by
  intro A n c W hW; have h9 := decode_any A n c _ W hW; rw [decL_places ss e2 n2 (by omega), flX_places ss e2 n2 (by omega)] at h9; exact h9
 have HFN : Hid (∀ i, i < fs.length -> fldT (fs.map padX ++ [((1028 : Int), gB nonce (sealB key [bb, nonce] (ss.flatMap encX)))]) i ≠ 1028) := fun i hi => by
  rw [fldT_map_padX _ _ _ hi]; exact findX_none hf i hi
 have HFL : Hid (fldT (fs.map padX ++ [((1028 : Int), gB nonce (sealB key [bb, nonce] (ss.flatMap encX)))]) fs.length = 1028) := by
  unfold Hid fldT; rw [List.getD, List.getElem?_append_right (by simp)]; simp
 have HFD : Hid (fldD (fs.map padX ++ [((1028 : Int), gB nonce (sealB key [bb, nonce] (ss.flatMap encX)))]) fs.length = gB nonce (sealB key [bb, nonce] (ss.flatMap encX))) := by
  unfold Hid fldD; rw [List.getD, List.getElem?_append_right (by simp)]; simp
 have HTK : Hid ((fs.map padX ++ [((1028 : Int), gB nonce (sealB key [bb, nonce] (ss.flatMap encX)))]).take fs.length = fs.map padX) := by
  unfold Hid; rw [List.take_append_of_le_length (by simp), List.take_of_length_le (by simp)]
 obtain ⟨L, hL⟩ : ∃ L, fs.map padX ++ [((1028 : Int), gB nonce (sealB key [bb, nonce] (ss.flatMap encX)))] = L := ⟨_, rfl⟩; have HLL : Hid (L.length = fs.length + 1) := by unfold Hid; rw [<- hL]; simp
 rw [hL] at HRD HFN HFL HFD HTK; obtain ⟨nf, hnf⟩ : ∃ nf, fs.length = nf := ⟨_, rfl⟩; rw [hnf] at HFN HFL HFD HTK HLL n1; have HSL : Hid ((ss.flatMap encX).length = totX ss) := totX_flat ss; have HSM := qq (totX_mod ss); obtain ⟨S, hS⟩ : ∃ S, ss.flatMap encX = S := ⟨_, rfl⟩; rw [hS] at HSL HPF HAL HDC HFD; obtain ⟨PB, hPB⟩ : ∃ PB, protB key h fs ss nonce = PB := ⟨_, rfl⟩; rw [hPB] at HPF HRD hb; obtain ⟨tf, htf⟩ : ∃ tf, totX fs = tf := ⟨_, rfl⟩; obtain ⟨ts, hts⟩ : ∃ ts, totX ss = ts := ⟨_, rfl⟩; rw [htf] at hsum hlen HHB; rw [hts] at hsum hlen HSL HSM HAL; have HK := qq hkey; have HB := qq hb; have HNN := qq hnn; have HLN := qq hlen; have HPD : Hid (fs.map padX = fs.map padX) := rfl; obtain ⟨fp, hfp⟩ : ∃ fp, fs.map padX = fp := ⟨_, rfl⟩; rw [hfp] at HTK ⊢; clear hkey hb hnn hz4 e1 e2 n2 hf hL hnf hS hPB htf hts hfp HPD hbb hk; obtain ⟨x0, x1, x2, x3, x4, x5, x6, x7, x8, x9, x10, x11, x12⟩ := h; simp only [pkA] at HRD ⊢
 go_enter Tryz.func20, Tryz.ntmps20
 go_upto_region 1 with fail
 obtain ⟨y1, r_, ey1, er_⟩ : ∃ y1 r_, y1 = w.alloc (.cells pzL.toArray 51) ∧ r_ = w.heap.size := ⟨_, _, rfl, rfl⟩; rw [show (#[.int .i64 0, .int .i64 0, .int .i64 0, .int .i64 0, .int .i64 0, .int .i64 0, .int .u32 0, .int .u32 0, .int .u32 0, .int .u64 0, .int .u64 0, .int .u64 0, .int .u64 0, .slice none 0 0, .slice none 0 0, .bool false] : Array Value) = pzL.toArray from rfl]; rw [<- ey1, <- er_]; have hb1 : Below w.heap.size w y1 := by rw [ey1]; exact below_alloc1 _ _
 have BR := qq (show Blk y1 r_ 51 pzL.toArray by rw [ey1, er_]; exact Blk.new _ _ _); have wr_ : w.heap.size <= r_ := by rw [er_]; exact Nat.le_refl _
 have HB := qs HB hb1; have HK := qs HK hb1; have RW := qq hb1; clear hb1 ey1 er_ hlen
 go_wp2_with fail
 refine (HRD.out _ HB.out).mono ?_; rintro e y2 ⟨AP, nP, cP, rfl, hF, hx⟩; have HF := qq hF; have hnP : nP = nf + 1 := by rw [<- hF.len, HLL.out]
 have BR := qs BR hx; have HB := qs HB hx; have HK := qs HK hx; have RW := qt RW hx; obtain ⟨bF, oF, Ad, nd, cd, eA, _, hc1, hBd⟩ := hF.at_ (i := nf) (by omega); subst eA; rw [HFD.out] at hBd; have hnd : nd = 20 + (16 + ts) := by have := hBd.len; rw [HAL.out] at this; omega
 have HND := qq hnd; have HBD := qq hBd; have HCD := qq hc1; have kI1 : (nP : Int) - 1 = (nf : Int) := by omega
 have kI2 : (nf : Int) < (nP : Int) := by omega
 have kI3 : nf <= nP := by omega
 have hPc : nP <= cP := hF.le; have hPC := hF.cap; clear hx hF HRD hnP hnd hc1 hBd
 go_upto_region 6 with (rw [show (#[.int .i64 0, .int .i64 0, .int .i64 0, .int .i64 0, .int .i64 0, .int .i64 0, .int .u32 0, .int .u32 0, .int .u32 0, .int .u64 0, .int .u64 0, .int .u64 0, .int .u64 0, .slice none 0 0, .slice none 0 0, .bool false] : Array Value) = pzL.toArray from rfl]; refine wpList_store_part rfl 51 _ _ rfl y2.heap.size 0 51 [] pzL [] [.int .i64 x0, .int .i64 x1, .int .i64 x2, .int .i64 x3, .int .i64 x4, .int .i64 x5, .int .u32 x6, .int .u32 x7, .int .u32 x8, .int .u64 x9, .int .u64 x10, .int .u64 x11, .int .u64 x12, .slice (some ⟨bF, oF, none⟩) nP cP, .slice none 0 0, .bool false] rfl rfl (Blk.new _ _ _) rfl rfl infoPk (by simp [Value.oneCell']) ?_; intro y3 D3 G3; have G3 := below_new_store G3; rw [List.append_nil, List.nil_append] at D3)
 obtain ⟨q_, eq_⟩ : ∃ q_, y2.heap.size = q_ := ⟨_, rfl⟩; rw [eq_] at D3 ⊢; have BQ := qq D3; have BR := qs BR G3; have HB := qs HB G3; have HK := qs HK G3; have HF := qs HF G3; have HBD := qs HBD G3; have RW := qt RW G3; have HCD := qq (cell_stays G3 HCD.out); clear G3 D3 eq_; have kc1 : y3.cell? ⟨q_, 13, none⟩ = some (.slice (some ⟨bF, oF, none⟩) nP cP) := BQ.out.cell 13
 go_wp2_with fail
 refine (idxField (fun k => decide (k = 1028)) _ nP cP L _ HF.out (fun W k A n c l _ _ _ => pOpen1_any k A n c W)).mono ?_; rintro e y4 ⟨r, rfl, hfo, hx⟩; have hr : r = (nf : Int) := by
  rcases hfo with ⟨j, hj, hp, hlow, rfl⟩ | ⟨hno, _⟩
  · have hp := of_decide_eq_true hp; have h1 : ¬ j < nf := fun h => HFN.out j h hp
    have h2 := HLL.out; have : j = nf := by omega
    rw [this]
  · have h1 := hno nf (by have := HLL.out; omega); rw [HFL.out] at h1; simp at h1
 subst hr; have BR := qs BR hx; have HB := qs HB hx; have HK := qs HK hx; have HF := qs HF hx; have BQ := qs BQ hx; have HBD := qs HBD hx; have RW := qt RW hx; have HCD := qq (cell_stays hx HCD.out); clear hx hfo kc1 HFN; have kc1 : y4.cell? ⟨q_, 13, none⟩ = some (.slice (some ⟨bF, oF, none⟩) nP cP) := BQ.out.cell 13; have kcd := HCD.out; have kN0 : ¬ (nf : Int) < 0 := by omega
 have HPA : Hid (∀ W, Bytes W Ad nd cd (gB nonce (sealB key [bb, nonce] S)) -> Calls Tryz.prog 58 #[.slice Ad nd cd] W fun e w' => ∃ A1 c1 A2 c2, e = .returned (.tuple #[.agg #[.slice A1 16 c1, .slice A2 (16 + ts) c2], .bool true]) ∧ Bytes w' A1 16 c1 nonce ∧ Bytes w' A2 (16 + ts) c2 (sealB key [bb, nonce] S) ∧ Below W.heap.size W w') := by
  intro W hW; have h1 := HND.out; subst h1; exact parse_any nonce _ (16 + ts) HNN.out (by have := HSM.out; omega) (by omega) (by rw [sealB_length, HSL.out]) Ad cd W hW
 go_upto_region 12 with fail
 clear kcd kc1
 go_wp2_with fail
 refine (HPA.out _ HBD.out).mono ?_; rintro e y5 ⟨A5, c5, A6, c6, rfl, hB5, hB6, hx⟩; have HB5 := qq hB5; have HB6 := qq hB6; have BR := qs BR hx; have HB := qs HB hx; have HK := qs HK hx; have HF := qs HF hx; have BQ := qs BQ hx; have RW := qt RW hx; clear hx hB5 hB6 HPA
 go_upto_region 15 with (refine wpList_store_part rfl 118 _ _ rfl y5.heap.size 0 118 [] [.slice none 0 0, .slice none 0 0] [] [.slice A5 16 c5, .slice A6 (16 + ts) c6] rfl rfl (Blk.new _ _ _) rfl rfl infoGd (by simp [Value.oneCell']) ?_; intro y6 D6 G6; have G6 := below_new_store G6; rw [List.append_nil, List.nil_append] at D6)
 obtain ⟨g_, eg_⟩ : ∃ g_, y5.heap.size = g_ := ⟨_, rfl⟩; rw [eg_] at D6 ⊢; have BG := qq D6; have BR := qs BR G6; have HB := qs HB G6; have HK := qs HK G6; have HF := qs HF G6; have BQ := qs BQ G6; have HB5 := qs HB5 G6; have HB6 := qs HB6 G6; have RW := qt RW G6; clear G6 D6 eg_; obtain ⟨kb, hkb⟩ : ∃ kb, 48 + tf = kb := ⟨_, rfl⟩; have HBB : Hid (Bytes y6 A kb c bb) := by
  have h := HB.out.cutTo kb (by have := HLN.out; omega); rw [HPF.out, List.take_append_of_le_length (by rw [HHB.out]; omega), List.take_of_length_le (by rw [HHB.out]; omega)] at h; exact h
 have nle := HB.out.le; have ncap := HB.out.cap; obtain ⟨d1, hd1⟩ : ∃ d1, n - nd = d1 := ⟨_, rfl⟩; have q1 : (n : Int) - (nd : Int) = (d1 : Int) := by have := HLN.out; have := HND.out; omega
 have q2 : (d1 : Int) - 4 = (kb : Int) := by have := HLN.out; have := HND.out; omega
 have q3 : ¬ (c : Int) < (kb : Int) := by have := HLN.out; omega
 have q4 : kb <= c := by have := HLN.out; omega
 have q5 : (0 : Int) <= (kb : Int) := by omega
 have w1 : IntKind.i64.wrap (d1 : Int) = (d1 : Int) := IntWalk.i64_in _ (by have := HLN.out; omega); have w2 : IntKind.i64.wrap (kb : Int) = (kb : Int) := IntWalk.i64_in _ (by have := HLN.out; omega); have HKB := qq hkb; have hkb2 : kb <= 2000 := by omega
 clear hkb hd1 kI1 kN0; refine mono_start (fun _ => True) [pv (.slice Ak 32 ck), pv (.slice A n c), pv (.slice A n c), pv (.int .i64 n), pv (.slice Ad nd cd), pv (.int .i64 nd), pv (.int .i64 d1), pv (.int .i64 kb), pv (.slice A kb c), pv (.pointer (some ⟨g_, 0, none⟩)), pv (.slice A5 16 c5), mv (fun v u => ∃ A', v = .slice A' 2 2 ∧ Lists u A' 2 2 [bb, nonce]), pv (.pointer (some ⟨g_, 1, none⟩)), pv (.slice A6 (16 + ts) c6), mv (fun v u => ∃ A' c', v = .tuple #[.slice A' ts c', .int .i64 0] ∧ Bytes u A' ts c' S), mv (fun v u => ∃ A' c', v = .tuple #[.slice A' ts c', .int .i64 0] ∧ Bytes u A' ts c' S), mv (fun v u => ∃ A' c', v = .slice A' ts c' ∧ Bytes u A' ts c' S), pv (.int .i64 0), mv (fun v u => ∃ A' c', v = .slice A' ts c' ∧ Bytes u A' ts c' S), pv (.int .i64 0)] (by kernel_rfl) (by kernel_rfl) (fun OPS AV AL K w0 hO hA hL hK hb0 hz => ?_); refine step_pv (d := (some 57)) (hO.out 0 _ rfl) rfl rfl (fun wq hw => ?_) ?_
 · clear hO hA hL hK
   go_simp; try first | with_reducible rfl | assumption | decide
 try simp only [qp, qn]
 refine step_pv (d := (some 58)) (hO.out 1 _ rfl) rfl rfl (fun wq hw => ?_) ?_
 · clear hO hA hL hK
   go_simp; try first | with_reducible rfl | assumption | decide
 try simp only [qp, qn]
 refine step_pv (d := (some 59)) (hO.out 2 _ rfl) rfl rfl (fun wq hw => ?_) ?_
 · clear hO hA hL hK
   go_simp; try first | with_reducible rfl | assumption | decide
 try simp only [qp, qn]
 refine step_pv (d := (some 60)) (hO.out 3 _ rfl) rfl rfl (fun wq hw => ?_) ?_
 · clear hO hA hL hK
   go_simp; try first | with_reducible rfl | assumption | decide
 try simp only [qp, qn]
 refine step_pv (d := (some 61)) (hO.out 4 _ rfl) rfl rfl (fun wq hw => ?_) ?_
 · clear hO hA hL hK
   go_simp; try first | with_reducible rfl | assumption | decide
 try simp only [qp, qn]
 refine step_pv (d := (some 62)) (hO.out 5 _ rfl) rfl rfl (fun wq hw => ?_) ?_
 · clear hO hA hL hK
   go_simp; try first | with_reducible rfl | assumption | decide
 try simp only [qp, qn]
 refine step_pv (d := (some 63)) (hO.out 6 _ rfl) rfl rfl (fun wq hw => ?_) ?_
 · clear hO hA hL hK
   go_simp; try first | with_reducible rfl | assumption | decide
 try simp only [qp, qn]
 refine step_pv (d := (some 64)) (hO.out 7 _ rfl) rfl rfl (fun wq hw => ?_) ?_
 · clear hO hA hL hK
   go_simp; try first | with_reducible rfl | assumption | decide
 try simp only [qp, qn]
 refine step_pv (d := (some 65)) (hO.out 8 _ rfl) rfl rfl (fun wq hw => ?_) ?_
 · clear hO hA hL hK
   go_simp; try first | with_reducible rfl | assumption | decide
 try simp only [qp, qn]
 refine step_pv (d := (some 66)) (hO.out 9 _ rfl) rfl rfl (fun wq hw => ?_) ?_
 · clear hO hA hL hK
   go_simp; try first | with_reducible rfl | assumption | decide
 try simp only [qp, qn]
 refine step_pg (d := (some 67)) (hO.out 10 _ rfl) rfl rfl (fun wq hw gt => ?_) ?_
 · have hx : Below y6.heap.size y6 wq := hb0.trans (hw.mono hb0.size); have k1 : wq.cell? ⟨g_, 0, none⟩ = some (.slice A5 16 c5) := (BG.out.stays hx).cell 0; clear gt hO hA hL hK
   go_simp; try first | with_reducible rfl | assumption | decide
 try simp only [qp, qn]
 refine step_mv (d := (some 68)) (hO.out 11 _ rfl) rfl rfl (fun wq hw gt => ?_) (fun v_11 x_11 => ?_)
 · have hx : Below y6.heap.size y6 wq := hb0.trans (hw.mono hb0.size); refine ⟨_, _, ?_, ⟨_, rfl, lists_made2 (E := 27) (HBB.out.stays hx) (HB5.out.stays hx)⟩, (Below.refl _ _).alloc (Nat.le_refl _) _⟩; clear gt hO hA hL hK
   go_simp; try first | with_reducible rfl | rfl
 try simp only [qp, qn]
 refine step_pv (d := (some 69)) (hO.out 12 _ rfl) rfl rfl (fun wq hw => ?_) ?_
 · clear hO hA hL hK
   go_simp; try first | with_reducible rfl | assumption | decide
 try simp only [qp, qn]
 refine step_pg (d := (some 70)) (hO.out 13 _ rfl) rfl rfl (fun wq hw gt => ?_) ?_
 · have hx : Below y6.heap.size y6 wq := hb0.trans (hw.mono hb0.size); have k1 : wq.cell? ⟨g_, 1, none⟩ = some (.slice A6 (16 + ts) c6) := (BG.out.stays hx).cell 1; clear gt hO hA hL hK
   go_simp; try first | with_reducible rfl | assumption | decide
 try simp only [qp, qn]
 refine step_mc (d := (some 71)) (hO.out 14 _ rfl) rfl rfl (fun wq hw gt => ?_) (fun v_14 x_14 => ?_)
 · have hx : Below y6.heap.size y6 wq := hb0.trans (hw.mono hb0.size); obtain ⟨⟨A', rfl, hLs⟩, hbk⟩ := (gt 11 (hA.out 14 11 (by kernel_rfl))); refine ⟨_, _, ?_, (open_any key Ak ck A' 2 2 [bb, nonce] _ ts _ S _ (HK.out.stays hx) (hLs.stays hbk) (HB6.out.stays hx) (by decide) (by decide) (listAt2 (by rw [HHB.out, HKB.out]; omega) (by rw [HNN.out]; decide)) (by omega)).mono (fun e q h => ?_)⟩
   · clear gt hO hA hL hK
     go_simp
   obtain ⟨A2, c2, rfl, h1, _, h2⟩ := h; exact ⟨_, rfl, ⟨A2, c2, rfl, h1⟩, h2⟩
 try simp only [qp, qn]
 refine step_mv (d := (some 56)) (hO.out 15 _ rfl) rfl rfl (fun wq hw gt => ?_) (fun v_15 x_15 => ?_)
 · have hx : Below y6.heap.size y6 wq := hb0.trans (hw.mono hb0.size); obtain ⟨⟨A', c', rfl, hB'⟩, hbk⟩ := (gt 14 (hA.out 15 14 (by kernel_rfl))); refine ⟨_, _, ?_, ⟨A', c', rfl, hB'.stays hbk⟩, Below.refl _ _⟩; clear gt hO hA hL hK
   go_simp; try first | with_reducible rfl | rfl
 try simp only [qp, qn]
 refine step_mv (d := (some 72)) (hO.out 16 _ rfl) rfl rfl (fun wq hw gt => ?_) (fun v_16 x_16 => ?_)
 · have hx : Below y6.heap.size y6 wq := hb0.trans (hw.mono hb0.size); obtain ⟨⟨A', c', rfl, hB'⟩, hbk⟩ := (gt 15 (hA.out 16 15 (by kernel_rfl))); refine ⟨_, _, ?_, ⟨A', c', rfl, hB'.stays hbk⟩, Below.refl _ _⟩; clear gt hO hA hL hK
   go_simp; try first | with_reducible rfl | rfl
 try simp only [qp, qn]
 refine step_pg (d := (some 73)) (hO.out 17 _ rfl) rfl rfl (fun wq hw gt => ?_) ?_
 · have hx : Below y6.heap.size y6 wq := hb0.trans (hw.mono hb0.size); obtain ⟨⟨A', c', rfl, hB'⟩, hbk⟩ := (gt 15 (hA.out 17 15 (by kernel_rfl))); clear gt hO hA hL hK
   go_simp; try first | with_reducible rfl | assumption | decide
 try simp only [qp, qn]
 refine step_mv (d := (some 12)) (hO.out 18 _ rfl) rfl rfl (fun wq hw gt => ?_) (fun v_18 x_18 => ?_)
 · have hx : Below y6.heap.size y6 wq := hb0.trans (hw.mono hb0.size); obtain ⟨⟨A', c', rfl, hB'⟩, hbk⟩ := (gt 16 (hA.out 18 16 (by kernel_rfl))); refine ⟨_, _, ?_, ⟨A', c', rfl, hB'.stays hbk⟩, Below.refl _ _⟩; clear gt hO hA hL hK
   go_simp; try first | with_reducible rfl | rfl
 try simp only [qp, qn]
 refine step_pv (d := (some 7)) (hO.out 19 _ rfl) rfl rfl (fun wq hw => ?_) ?_
 · clear hO hA hL hK
   go_simp; try first | with_reducible rfl | assumption | decide
 try simp only [qp, qn]
 refine fun wq hw gt => hK.out _ _ ?_
 obtain ⟨⟨A7, c7, rfl, h7⟩, hb7⟩ := (gt 18 (hL.out 18 (by kernel_rfl))); have hx : Below y6.heap.size y6 wq := hb0.trans (hw.mono hb0.size); clear gt hO hA hL hK q1 q2 q3 q4 q5 w1 w2; refine wpAnyH_done (by kernel_rfl) ?_ _; have HB7 := qq (h7.stays hb7); have BR := qs BR hx; have BQ := qs BQ hx; have HF := qs HF hx; have RW := qt RW hx; clear hx hw hz hb0 hb7 h7 HBB HB5 HB6 BG
 go_wp2_with fail
 refine (HDC.out A7 ts c7 _ HB7.out).mono ?_; rintro e y8 ⟨A8, n8, c8, rfl, hF8, hx⟩; have HF8 := qq hF8; have BR := qs BR hx; have BQ := qs BQ hx; have HF := qs HF hx; have RW := qt RW hx; clear hx hF8 HB7; have q6 : (0 : Int) <= (nf : Int) := by omega
 have q7 : nf <= cP := by omega
 have q8 : ¬ (cP : Int) < (nf : Int) := by omega
 go_upto_region 21 with fail
 refine mono_start (fun _ => True) [pv (.pointer (some ⟨q_, 0, none⟩)), pv (.agg #[.int .i64 x0, .int .i64 x1, .int .i64 x2, .int .i64 x3, .int .i64 x4, .int .i64 x5, .int .u32 x6, .int .u32 x7, .int .u32 x8, .int .u64 x9, .int .u64 x10, .int .u64 x11, .int .u64 x12]), pv (.pointer (some ⟨q_, 13, none⟩)), pv (.slice (some ⟨bF, oF, none⟩) nP cP), pv (.int .i64 nf), pv (.int .i64 nf), pv (.slice (some ⟨bF, oF, none⟩) nf nf), pv (.slice A8 n8 c8), pv (.agg #[.int .i64 x0, .int .i64 x1, .int .i64 x2, .int .i64 x3, .int .i64 x4, .int .i64 x5, .int .u32 x6, .int .u32 x7, .int .u32 x8, .int .u64 x9, .int .u64 x10, .int .u64 x11, .int .u64 x12, .slice (some ⟨bF, oF, none⟩) nf nf, .slice A8 n8 c8, .bool true])] (by kernel_rfl) (by kernel_rfl) (fun OPS AV AL K w0 hO hA hL hK hb0 hz => ?_); refine step_pv (d := (some 86)) (hO.out 0 _ rfl) rfl rfl (fun wq hw => ?_) ?_
 · clear hO hA hL hK
   go_simp; try first | with_reducible rfl | assumption | decide
 try simp only [qp, qn]
 refine step_pg (d := (some 87)) (hO.out 1 _ rfl) rfl rfl (fun wq hw gt => ?_) ?_
 · have hx : Below y8.heap.size y8 wq := hb0.trans (hw.mono hb0.size); exact exec_load_part 48 _ rfl q_ 0 51 [] [.int .i64 x0, .int .i64 x1, .int .i64 x2, .int .i64 x3, .int .i64 x4, .int .i64 x5, .int .u32 x6, .int .u32 x7, .int .u32 x8, .int .u64 x9, .int .u64 x10, .int .u64 x11, .int .u64 x12] [.slice (some ⟨bF, oF, none⟩) nP cP, .slice none 0 0, .bool false] _ rfl (BQ.out.stays hx) rfl Tryz.underlying48 rfl infoHd
 try simp only [qp, qn]
 refine step_pv (d := (some 88)) (hO.out 2 _ rfl) rfl rfl (fun wq hw => ?_) ?_
 · clear hO hA hL hK
   go_simp; try first | with_reducible rfl | assumption | decide
 try simp only [qp, qn]
 refine step_pg (d := (some 89)) (hO.out 3 _ rfl) rfl rfl (fun wq hw gt => ?_) ?_
 · have hx : Below y8.heap.size y8 wq := hb0.trans (hw.mono hb0.size); have k1 : wq.cell? ⟨q_, 13, none⟩ = some (.slice (some ⟨bF, oF, none⟩) nP cP) := (BQ.out.stays hx).cell 13; clear gt hO hA hL hK
   go_simp; try first | with_reducible rfl | assumption | decide
 try simp only [qp, qn]
 refine step_pv (d := (some 90)) (hO.out 4 _ rfl) rfl rfl (fun wq hw => ?_) ?_
 · clear hO hA hL hK
   go_simp; try first | with_reducible rfl | assumption | decide
 try simp only [qp, qn]
 refine step_pv (d := (some 91)) (hO.out 5 _ rfl) rfl rfl (fun wq hw => ?_) ?_
 · clear hO hA hL hK
   go_simp; try first | with_reducible rfl | assumption | decide
 try simp only [qp, qn]
 refine step_pv (d := (some 92)) (hO.out 6 _ rfl) rfl rfl (fun wq hw => ?_) ?_
 · clear hO hA hL hK
   go_simp; try first | with_reducible rfl | assumption | decide
 try simp only [qp, qn]
 refine step_pv (d := (some 93)) (hO.out 7 _ rfl) rfl rfl (fun wq hw => ?_) ?_
 · clear hO hA hL hK
   go_simp; try first | with_reducible rfl | assumption | decide
 try simp only [qp, qn]
 refine step_pv (d := (some 94)) (hO.out 8 _ rfl) rfl rfl (fun wq hw => ?_) ?_
 · clear hO hA hL hK
   go_simp; try first | with_reducible rfl | assumption | decide
 try simp only [qp, qn]
 refine fun wq hw gt => hK.out _ _ ?_
 have hx : Below y8.heap.size y8 wq := hb0.trans (hw.mono hb0.size); have BR := BR.out.stays hx; clear gt hO hA hL hK; refine take_store_part (j := 9) rfl rfl (by kernel_rfl) rfl 51 _ _ rfl r_ 0 51 [] pzL [] [.int .i64 x0, .int .i64 x1, .int .i64 x2, .int .i64 x3, .int .i64 x4, .int .i64 x5, .int .u32 x6, .int .u32 x7, .int .u32 x8, .int .u64 x9, .int .u64 x10, .int .u64 x11, .int .u64 x12, .slice (some ⟨bF, oF, none⟩) nf nf, .slice A8 n8 c8, .bool true] rfl rfl BR rfl rfl infoPk (by simp [Value.oneCell']) (fun _ _ => trivial) (fun w9 D9 G9 => ?_); rw [List.append_nil, List.nil_append] at D9; refine take_do (j := 10) (d := (some 5)) (v := .int .i64 0) (w2 := w9) rfl rfl (by kernel_rfl) rfl (Or.inl (by go_simp; try with_reducible rfl)) trivial ?_; try simp only [qp, qn]
 refine wpAnyH_done (by kernel_rfl) ?_ _
 go_wp2_with fail
 have k1 := (HF.out.cutTo nf nf kI3 (Nat.le_refl _) (by omega)).stays hx; rw [HTK.out] at k1; have k2 := HF8.out.stays hx; have r1 := RW.out.trans (hx.mono RW.out.size); refine bodyPost_ret (results_whole2 rfl _ _ r_ _ _ _ _ rfl rfl D9 Tryz.underlying51 rfl infoPk) rfl ⟨_, _, _, _, _, _, rfl, k1.keptN BR rfl rfl G9, k2.keptN BR rfl rfl G9, r1.grown G9 r1.size (fun k hk => by cases hk; exact wr_)⟩
abbrev RecT := Bool × Int × List UInt8
def encRec (x : RecT) (A : Option Addr) (n c : Nat) : List Value := [.bool x.1, .int .i64 x.2.1, .slice A n c]
def datRec (x : RecT) : List UInt8 := x.2.2
def RecL (w : World) (A : Option Addr) (n c : Nat) (rs : List RecT) : Prop := ∃ vs, Rd w 3 A n c vs ∧ ItemsV 3 encRec datRec w none vs rs
def recC (rs : List RecT) (i : Nat) : Bool := (rs.getD i (false, 0, [])).1
def recT (rs : List RecT) (i : Nat) : Int := (rs.getD i (false, 0, [])).2.1
def recD (rs : List RecT) (i : Nat) : List UInt8 := (rs.getD i (false, 0, [])).2.2
theorem rec_eq (rs : List RecT) (k : Nat) (h : k < rs.length) : rs[k] = (recC rs k, recT rs k, recD rs k) := by simp [recC, recT, recD, List.getD, h]
theorem take_rec (rs : List RecT) (k : Nat) (h : k < rs.length) : rs.take (k + 1) = rs.take k ++ [(recC rs k, recT rs k, recD rs k)] := by
 rw [<- rec_eq rs k h, List.take_succ_eq_append_getElem h]
section
variable {w w' : World} {A : Option Addr} {n c : Nat} {rs : List RecT}
theorem RecL.stays (h : RecL w A n c rs) (hb : Below w.heap.size w w') : RecL w' A n c rs := by
 obtain ⟨vs, h1, h2⟩ := h; exact ⟨vs, h1.stays hb, h2.stays hb⟩
instance : QStay (RecL w A n c rs) w w' (RecL w' A n c rs) := ⟨fun h hb => RecL.stays h hb⟩
theorem RecL.len (h : RecL w A n c rs) : rs.length = n := by
 obtain ⟨vs, h1, h2⟩ := h; have := h1.1; have := h2.1; omega
theorem RecL.le (h : RecL w A n c rs) : n <= c := by obtain ⟨vs, h1, _⟩ := h; exact h1.2.1
theorem RecL.cap (h : RecL w A n c rs) : c <= 9223372036854775807 := by
 obtain ⟨vs, h1, _⟩ := h; have := h1.2.2.1; unfold maxLen at this; omega
theorem RecL.at_ (h : RecL w A n c rs) {i : Nat} (hi : i < n) : ∃ b off A' n' c', A = some ⟨b, off, none⟩ ∧ w.cell? ⟨b, off + i * 3, none⟩ = some (.bool (recC rs i)) ∧ w.cell? ⟨b, off + i * 3 + 1, none⟩ = some (.int .i64 (recT rs i)) ∧ w.cell? ⟨b, off + i * 3 + 2, none⟩ = some (.slice A' n' c') ∧ Bytes w A' n' c' (recD rs i) := by
 have hl := h.len; obtain ⟨vs, h1, h2⟩ := h; have hli : i < rs.length := by omega
 obtain ⟨A', n', c', e, hy, _⟩ := h2.2 i (rs[i]) (List.getElem?_eq_getElem hli); rw [rec_eq rs i hli] at e hy; have e0 := e 0 (by decide); have e1 := e 1 (by decide); have e2 := e 2 (by decide); simp only [encRec, List.getElem?_cons_zero, List.getElem?_cons_succ] at e0 e1 e2; obtain ⟨b, off, ha, hc⟩ := h1.2.2.2 _ _ e0; obtain ⟨b1, off1, ha1, hc1⟩ := h1.2.2.2 _ _ e1; obtain ⟨b2, off2, ha2, hc2⟩ := h1.2.2.2 _ _ e2; rw [ha] at ha1 ha2; simp only [Option.some.injEq, Addr.mk.injEq, and_true] at ha1 ha2; obtain ⟨rfl, rfl⟩ := ha1; obtain ⟨rfl, rfl⟩ := ha2; exact ⟨b, off, A', n', c', ha, hc, by rw [Nat.add_assoc]; exact hc1, by rw [Nat.add_assoc]; exact hc2, hy⟩
theorem ItemsV.free {α : Type} {sz : Nat} {enc : α -> Option Addr -> Nat -> Nat -> List Value} {dat : α -> List UInt8} {w : World} {bad : Option Nat} {vs : List Value} {xs : List α} (h : ItemsV sz enc dat w bad vs xs) : ItemsV sz enc dat w none vs xs :=
 ⟨h.1, fun i x hx => by obtain ⟨A, n, c, h1, h2, _⟩ := h.2 i x hx; exact ⟨A, n, c, h1, h2, fun a _ _ e => by cases e⟩⟩
theorem OwnItems.recL {e B : Nat} (h : OwnItems 3 encRec datRec e w B A n c rs) : RecL w A n c rs := by
 obtain ⟨vs, h1, h2⟩ := h.rd; exact ⟨vs, h1, h2.free⟩
theorem Off.none {A : Option Addr} {n : Nat} : Off A n none := fun a _ _ e => by cases e
theorem RecL.made {g T : Nat} {vs : List Value} (hB : Blk w g T vs.toArray) (hm : vs.length <= maxLen) (hi : ItemsV 3 encRec datRec w none vs rs) : RecL w (some ⟨g, 0, none⟩) rs.length rs.length rs := by
 refine ⟨vs, ⟨hi.1, Nat.le_refl _, by have := hi.1; omega, fun i u hu => ⟨g, 0, rfl, ?_⟩⟩, hi⟩; rw [hB.cell, Nat.zero_add]
 simpa using hu
end
def encR (r : RecT) : List UInt8 := putL (r.2.1.toNat + if r.1 then 32768 else 0) 2 ++ (putL r.2.2.length 2 ++ r.2.2)
theorem encR_length (r : RecT) : (encR r).length = 4 + r.2.2.length := by unfold encR; simp [putL_length]; omega
theorem take_encR (rs : List RecT) (k : Nat) (h : k < rs.length) : (rs.take (k + 1)).flatMap encR = (rs.take k).flatMap encR ++ encR (recC rs k, recT rs k, recD rs k) := by
 rw [take_rec rs k h, List.flatMap_append]; simp
theorem take_encR_le (rs : List RecT) (k : Nat) : ((rs.take k).flatMap encR).length <= (rs.flatMap encR).length := by
 have e : (rs.flatMap encR).length = ((rs.take k).flatMap encR).length + ((rs.drop k).flatMap encR).length := by
  rw [<- List.length_append, <- List.flatMap_append, List.take_append_drop]
 omega
theorem infoRec : (Tryz.prog.info? 132).map (·.size) = some 3 := by kernel_rfl
theorem number_any (n : Int) (h0 : 0 <= n) (h1 : n <= 65535) (w : World) : Calls Tryz.prog 52 #[.int .i64 n] w fun e w' => e = .returned (.bool true) ∧ w = w' := by
 have k1 : ¬ n < 0 := by omega
 have k2 : ¬ 65535 < n := by omega
 go_enter Tryz.func52, Tryz.ntmps52
 go_wp2
 all_goals
  go_ret; exact ⟨by simp; try omega, rfl⟩
def bodyL (l : List Nat) : List UInt8 := l.flatMap fun x => putL x 2
theorem bodyL_take (l : List Nat) (k : Nat) (h : k < l.length) : bodyL (l.take (k + 1)) = bodyL (l.take k) ++ putL (l.getD k 0) 2 := by
 unfold bodyL; rw [List.take_succ_eq_append_getElem h, List.flatMap_append]; simp [List.getD, h]
theorem IntsL.at_ {w : World} {A : Option Addr} {n c : Nat} {l : List Nat} (h : IntsL w A n c l) {i : Nat} (hi : i < n) : ∃ b off, A = some ⟨b, off, none⟩ ∧ w.cell? ⟨b, off + i, none⟩ = some (.int .i64 (l.getD i 0 : Nat)) := by
 have hl := h.len; exact h.2.2.2 i _ (by rw [List.getElem?_map, List.getElem?_eq_getElem (by omega)]; simp [List.getD, List.getElem?_eq_getElem (show i < l.length by omega)])
theorem body_any (A : Option Addr) (n c : Nat) (l : List Nat) (w : World) (hv : IntsL w A n c l) (hx : ∀ k, l.getD k 0 <= 65535) (hn : n <= 1000) : Calls Tryz.prog 55 #[.slice A n c] w fun e w' => ∃ A' c', e = .returned (.slice A' (2 * n) c') ∧ w'.ownsRow w.heap.size 5 1 (.slice A' (2 * n) c') (2 * n) ((bodyL l).map byteV) ∧ Below w.heap.size w w' := by
 obtain ⟨i0, hi, hz0, hz1, hz2⟩ := info_parts infoByteA; have hle := hv.2.1; have hcap : c <= 9223372036854775807 := by have := hv.2.2.1; unfold maxLen at this; omega
 have HV := qq hv; have HL := qq hv.len; have HX := qq hx; clear hv hx
 go_enter Tryz.func55, Tryz.ntmps55
 go_wp2
 go_loopw [3, 8] (fun s i wr => ∃ (k mo co : Nat) (AO : Option Addr), k <= n ∧ i = .int .i64 k ∧ s = .slice AO mo co ∧ Hid (mo = 2 * k) ∧ Hid (wr.ownsRow w.heap.size 5 1 (.slice AO mo co) mo ((bodyL (l.take k)).map byteV)) ∧ Below w.heap.size w wr) (fun _ i _ => n - (intOf i).toNat)
 case atStart => exact ⟨0, 0, 0, none, Nat.zero_le _, rfl, rfl, rfl, own_nil _ _ _ _, Below.refl _ _⟩
 case round =>
  obtain ⟨k, mo, co, AO, hk, rfl, rfl, HM, HO, hbr⟩ := hrel; have RW := qq hbr
  by_cases hkn : k < n
  · have hki : (k : Int) < (n : Int) := by omega
    obtain ⟨bb, off, rfl, hc0⟩ := (HV.out.stays hbr).at_ hkn; have ht := HX.out k; obtain ⟨t, et⟩ : ∃ t, l.getD k 0 = t := ⟨_, rfl⟩; have HT := qq et; rw [et] at hc0 ht; have wT : IntKind.u64.wrap (t : Int) = (t : Int) := IntWalk.u64_in _ (by omega); clear hbr et ht
    go_wp2_with fail
    refine (put_reads t 2 (by decide) _).mono ?_; rintro e y2 ⟨A2, c2, rfl, hB2, hx⟩; have HB2 := qq hB2; have HO := qq (own_below HO.out hx); have RW := qt RW hx; clear hx hB2 hc0 wT
    go_wp2_with (at_builtin; refine wpList_append_rd rfl _ _ 27 rfl i0 (.int .u8 0) 1 Tryz.underlying27 hi hz0 hz1 hz2 rfl (by decide) rfl HO.out rfl HB2.out (oneCell_bytes _) (by have := HM.out; unfold maxLen; omega) (by have := HM.out; omega) RW.out.size ?_; intro A8 c8 w8 hown8 hg8 hb8; have HG8 := qq hb8; have HO8 := qq hown8; clear hg8 hb8 hown8)
    have RX := RW.out.trans HG8.out; have O8 : Hid (w8.ownsRow w.heap.size 5 1 (.slice A8 (mo + 2) c8) (mo + 2) ((bodyL (l.take (k + 1))).map byteV)) := by
     rw [Hid, bodyL_take l k (by rw [HL.out]; exact hkn), HT.out, List.map_append]; exact HO8.out
    clear HO8 HG8; go_wp2
    go_roundw
    case rel => exact ⟨k + 1, mo + 2, c8, A8, by omega, by go_num, rfl, by have := HM.out; unfold Hid; omega, O8, RX⟩
    case measure => simp [intOf]; omega
  · have hk9 : k = n := by omega
    subst hk9; clear hkn; go_wp2; go_ret; have hmo := HM.out; subst hmo; have h9 := HO.out; rw [List.take_of_length_le (by rw [HL.out]; exact Nat.le_refl _)] at h9; exact ⟨AO, co, rfl, h9, RW.out⟩
end Go.Proofs.YtiemnacoebkalaaGreat
