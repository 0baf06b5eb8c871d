import Derived.Test.YtiemnacoebkalaaGreatTaV25
import Derived.Test.YtiemnacoebkalaaGreatTaV26
set_option linter.all false
set_option maxRecDepth 100000
set_option maxHeartbeats 4000000
namespace Go.Proofs.YtiemnacoebkalaaGreat
open Go Go.RowKit
def Chan (w : World) (v : Value) (cl : Bool) (s : List UInt8) (sent rcv : Int) : Prop := ∃ A1 c1 A2 c2 A3 c3, v = .agg #[.bool cl, .slice A1 32 c1, .slice A2 32 c2, .slice A3 32 c3, .int .i64 sent, .int .i64 rcv] ∧ Bytes w A1 32 c1 s ∧ Bytes w A2 32 c2 (sendK cl s) ∧ Bytes w A3 32 c3 (recvK cl s)
theorem Chan.stays {w w' : World} {v : Value} {cl : Bool} {s : List UInt8} {a b : Int} (h : Chan w v cl s a b) (hb : Below w.heap.size w w') : Chan w' v cl s a b := by
 obtain ⟨A1, c1, A2, c2, A3, c3, e, h1, h2, h3⟩ := h; exact ⟨A1, c1, A2, c2, A3, c3, e, h1.stays hb, h2.stays hb, h3.stays hb⟩
instance {w w' : World} {v : Value} {cl : Bool} {s : List UInt8} {a b : Int} : QStay (Chan w v cl s a b) w w' (Chan w' v cl s a b) := ⟨fun h hb => Chan.stays h hb⟩
theorem own_rd_one1 {w : World} {b : Nat} {T : TypeId} {v : Value} (h : Blk w b T #[v]) : Rd w 1 (some ⟨b, 0, none⟩) 1 1 [v] := own_rd (own_made (B := 0) (Nat.zero_le _) h (Nat.le_refl _) (by decide) rfl rfl)
theorem copied_any (v : Value) (cl : Bool) (s : List UInt8) (a b0 sent rcv : Int) (w : World) (h : Chan w v cl s a b0) : Calls Tryz.prog 69 #[v, .int .i64 sent, .int .i64 rcv] w fun e w' => ∃ u, e = .returned u ∧ Chan w' u cl s sent rcv ∧ Below w.heap.size w w' := by
 obtain ⟨A1, c1, A2, c2, A3, c3, rfl, h1, _, _⟩ := h; have H1 := qq h1; clear h1
 go_enter Tryz.func69, Tryz.ntmps69
 go_upto_region 1 with fail
 obtain ⟨y1, x_, r_, ey1, ex_, er_⟩ : ∃ y1 x_ r_, y1 = (w.alloc (.cells #[.bool cl, .slice A1 32 c1, .slice A2 32 c2, .slice A3 32 c3, .int .i64 a, .int .i64 b0] 60)).alloc (.cells chZ.toArray 60) ∧ x_ = w.heap.size ∧ r_ = w.heap.size + 1 := ⟨_, _, _, rfl, rfl, rfl⟩; rw [show (#[.bool false, .slice none 0 0, .slice none 0 0, .slice none 0 0, .int .i64 0, .int .i64 0] : Array Value) = chZ.toArray from rfl]; rw [<- ey1, <- er_, <- ex_]; have hb1 : Below w.heap.size w y1 := by rw [ey1]; exact below_alloc2 _ _ _
 have BX := qq (show Blk y1 x_ 60 #[.bool cl, .slice A1 32 c1, .slice A2 32 c2, .slice A3 32 c3, .int .i64 a, .int .i64 b0] by rw [ey1, ex_]; exact blk_new2_0 _ _ _ _ _); have BR := qq (show Blk y1 r_ 60 chZ.toArray by rw [ey1, er_]; exact blk_new2_1 _ _ _ _ _); have wr_ : w.heap.size <= r_ := by omega
 have H1 := qs H1 hb1; have RW := qq hb1; clear hb1 ey1 er_ ex_; refine mono_start (fun _ => True) [pv (.pointer (some ⟨x_, 0, none⟩)), pv (.bool cl), pv (.pointer (some ⟨x_, 1, none⟩)), pv (.slice A1 32 c1), mv (fun v u => ∃ b, v = .slice (some ⟨b, 0, none⟩) 1 1 ∧ Blk u b 27 #[.slice A1 32 c1]), mv (fun v u => ∃ A' c', v = .slice A' 32 c' ∧ Bytes u A' 32 c' s), mv (fun v u => ∃ A' c' A2 A3, v = .agg #[.bool cl, .slice A' 32 c', .slice A2 32 32, .slice A3 32 32, .int .i64 0, .int .i64 0] ∧ Bytes u A' 32 c' s ∧ Bytes u A2 32 32 (sendK cl s) ∧ Bytes u A3 32 32 (recvK cl s)), mv (fun v u => ∃ b, v = .pointer (some ⟨b, 0, none⟩) ∧ y1.heap.size <= b ∧ Blk u b 60 chZ.toArray)] (by kernel_rfl) (by kernel_rfl) (fun OPS AV AL K w0 hO hA hL hK hb0 hz => ?_); refine step_pv (d := (some 8)) (hO.out 0 _ rfl) rfl rfl (fun wq hw => ?_) ?_
 · clear hO hA hL hK
   go_simp; try first | with_reducible rfl | assumption | decide
 try simp only [qp, qn]
 refine step_pg (d := (some 9)) (hO.out 1 _ rfl) rfl rfl (fun wq hw gt => ?_) ?_
 · have hx : Below y1.heap.size y1 wq := hb0.trans (hw.mono hb0.size); have c1 := (BX.out.stays hx).cell 0; clear gt hO hA hL hK
   go_simp; try first | with_reducible rfl | assumption | decide
 try simp only [qp, qn]
 refine step_pv (d := (some 10)) (hO.out 2 _ rfl) rfl rfl (fun wq hw => ?_) ?_
 · clear hO hA hL hK
   go_simp; try first | with_reducible rfl | assumption | decide
 try simp only [qp, qn]
 refine step_pg (d := (some 11)) (hO.out 3 _ rfl) rfl rfl (fun wq hw gt => ?_) ?_
 · have hx : Below y1.heap.size y1 wq := hb0.trans (hw.mono hb0.size); have c1 := (BX.out.stays hx).cell 1; clear gt hO hA hL hK
   go_simp; try first | with_reducible rfl | assumption | decide
 try simp only [qp, qn]
 refine step_mv (d := (some 12)) (hO.out 4 _ rfl) rfl rfl (fun wq hw gt => ?_) (fun v_4 x_4 => ?_)
 · have hx : Below y1.heap.size y1 wq := hb0.trans (hw.mono hb0.size); refine ⟨_, _, ?_, ⟨_, rfl, Blk.new _ _ _⟩, (Below.refl _ _).alloc (Nat.le_refl _) _⟩; clear gt hO hA hL hK
   go_simp; try first | with_reducible rfl | rfl
 try simp only [qp, qn]
 refine step_mc (d := (some 13)) (hO.out 5 _ rfl) rfl rfl (fun wq hw gt => ?_) (fun v_5 x_5 => ?_)
 · have hx : Below y1.heap.size y1 wq := hb0.trans (hw.mono hb0.size); obtain ⟨⟨b, rfl, hB⟩, hbb⟩ := (gt 4 (hA.out 5 4 (by kernel_rfl))); refine ⟨_, _, ?_, (join_any _ _ _ [s] _ (VL.lists (VL.one (H1.out.stays hx)) (own_rd_one1 (hB.stays hbb))) 32 (by simp [H1.out.len]) (by decide)).mono (fun e q h => ?_)⟩
   · clear gt hO hA hL hK
     go_simp
   obtain ⟨A', c', rfl, ho, hb⟩ := h; have h2 := own_rd ho; rw [show [s].flatten = s by simp] at h2; exact ⟨_, rfl, ⟨A', c', rfl, h2⟩, hb⟩
 try simp only [qp, qn]
 refine step_mc (d := (some 14)) (hO.out 6 _ rfl) rfl rfl (fun wq hw gt => ?_) (fun v_6 x_6 => ?_)
 · have hx : Below y1.heap.size y1 wq := hb0.trans (hw.mono hb0.size); obtain ⟨⟨A', c', rfl, hB⟩, hbb⟩ := (gt 5 (hA.out 6 5 (by kernel_rfl))); refine ⟨_, _, ?_, (keyed_any cl A' c' s _ (hB.stays hbb)).mono (fun e q h => ?_)⟩
   · clear gt hO hA hL hK
     go_simp
   obtain ⟨A2, A3, rfl, h2, h3, hb⟩ := h; exact ⟨_, rfl, ⟨A', c', A2, A3, rfl, (hB.stays hbb).stays hb, h2, h3⟩, hb⟩
 try simp only [qp, qn]
 refine step_mv (d := (some 7)) (hO.out 7 _ rfl) rfl rfl (fun wq hw gt => ?_) (fun v_7 x_7 => ?_)
 · have hx : Below y1.heap.size y1 wq := hb0.trans (hw.mono hb0.size); refine ⟨_, _, ?_, ⟨_, rfl, hx.size, Blk.new _ _ _⟩, (Below.refl _ _).alloc (Nat.le_refl _) _⟩; clear gt hO hA hL hK
   go_simp; try first | with_reducible rfl | rfl
 try simp only [qp, qn]
 refine fun wq hw gt => hK.out _ _ ?_
 obtain ⟨⟨A', c', A2, A3, rfl, h1, h2, h3⟩, hb6⟩ := (gt 6 (hL.out 6 (by kernel_rfl))); obtain ⟨⟨b, rfl, hbl, hB⟩, hb7⟩ := (gt 7 (hL.out 7 (by kernel_rfl))); have hx : Below y1.heap.size y1 wq := hb0.trans (hw.mono hb0.size); have hB := hB.stays hb7; have h1 := h1.stays hb6; have h2 := h2.stays hb6; have h3 := h3.stays hb6; clear gt hO hA hL hK; refine take_store_part (j := 8) rfl rfl (by kernel_rfl) rfl 60 _ _ rfl b 0 60 [] chZ [] [.bool cl, .slice A' 32 c', .slice A2 32 32, .slice A3 32 32, .int .i64 0, .int .i64 0] rfl rfl hB rfl rfl infoCh (by simp [Value.oneCell']) (fun _ _ => trivial) (fun w2 D G => ?_); rw [List.append_nil, List.nil_append] at D; refine wpAnyH_done (by kernel_rfl) ?_ _; have h1 := h1.kept G (off_block h1 hB rfl); have h2 := h2.kept G (off_block h2 hB rfl); have h3 := h3.kept G (off_block h3 hB rfl); have HX := qq (hx.grown G hx.size (fun k hk => by cases hk; exact hbl)); have D4 := (Blk.put D 4 (.int .i64 sent)).put 5 (.int .i64 rcv); have G4 : w2.grownBy ((w2.setCell ⟨b, 4, none⟩ (.int .i64 sent)).setCell ⟨b, 5, none⟩ (.int .i64 rcv)) (some b) := grown_put (grown_put (World.grownBy.refl _ _) 4 _) 5 _; have k1 := h1.kept G4 (off_block h1 D rfl); have k2 := h2.kept G4 (off_block h2 D rfl); have k3 := h3.kept G4 (off_block h3 D rfl); have HX4 := qq (HX.out.grown G4 HX.out.size (fun k hk => by cases hk; exact hbl)); have HR4 := qq ((BR.out.stays HX.out).grown G4 (by have := BR.out.lt; intro e; injection e with e; omega)); have c4 := D.cell; have f4 := D.frozen; clear h1 h2 h3 hb6 hb7 hB hx hw hz hb0
 go_upto_region 3 with fail
 obtain ⟨w4, hw4⟩ : ∃ w4, (w2.setCell ⟨b, 4, none⟩ (.int .i64 sent)).setCell ⟨b, 5, none⟩ (.int .i64 rcv) = w4 := ⟨_, rfl⟩; rw [hw4] at D4 G4 k1 k2 k3 HX4 HR4 ⊢; clear hw4 c4 f4 D G; obtain ⟨vs, hvs⟩ : ∃ vs : List Value, vs = [.bool cl, .slice A' 32 c', .slice A2 32 32, .slice A3 32 32, .int .i64 sent, .int .i64 rcv] := ⟨_, rfl⟩; have D5 : Blk w4 b 60 ([] ++ (vs ++ [])).toArray := by rw [hvs]; exact D4
 have hvl : vs.length = 6 := by rw [hvs]; rfl
 have hv1 : ∀ v ∈ vs, v.oneCell' = true := by rw [hvs]; simp [Value.oneCell']
 have HVS := qq hvs; clear hvs D4
 go_wp2_with (first | (refine wpList_load_part rfl 60 _ rfl b 0 60 [] vs [] _ rfl D5 rfl Tryz.underlying60 rfl (by rw [hvl]; exact infoCh) ?_) | (refine wpList_store_part rfl 60 _ _ rfl r_ 0 60 [] chZ [] vs rfl rfl HR4.out rfl (by rw [hvl]; rfl) (by rw [hvl]; exact infoCh) hv1 ?_; intro w5 D6 G6; rw [List.append_nil, List.nil_append] at D6))
 refine bodyPost_ret (results_whole rfl _ _ r_ _ _ _ rfl D6 Tryz.underlying60 rfl (by rw [hvl]; exact infoCh)) rfl ⟨_, rfl, ?_, ?_⟩
 · refine ⟨A', c', A2, 32, A3, 32, by rw [HVS.out], k1.kept G6 (off_block k1 HR4.out rfl), k2.kept G6 (off_block k2 HR4.out rfl), k3.kept G6 (off_block k3 HR4.out rfl)⟩
 · have r4 := RW.out.trans (HX4.out.mono RW.out.size); exact r4.grown G6 r4.size (fun k hk => by cases hk; exact wr_)
theorem chValid_any (v : Value) (cl : Bool) (s : List UInt8) (a b : Nat) (ha : a <= 1) (hb : b <= 1) (w : World) (h : Chan w v cl s a b) : Calls Tryz.prog 49 #[v] w fun e w' => e = .returned (.bool true) ∧ Below w.heap.size w w' := by
 obtain ⟨A1, c1, A2, c2, A3, c3, rfl, h1, h2, h3⟩ := h; have H1 := qq h1; have H2 := qq h2; have H3 := qq h3; clear h1 h2 h3; obtain ⟨a', ea⟩ : ∃ a' : Int, (a : Int) = a' := ⟨_, rfl⟩; obtain ⟨b', eb⟩ : ∃ b' : Int, (b : Int) = b' := ⟨_, rfl⟩; rw [ea, eb]; have hm : (if b' < a' then b' else a') = 0 ∨ (if b' < a' then b' else a') = 1 := by split <;> omega
 have hA : a' = 0 ∨ a' = 1 := by omega
 have hB : b' = 0 ∨ b' = 1 := by omega
 clear hm ea eb; have key : ∀ (a' b' : Int), (a' = 0 ∨ a' = 1) -> (b' = 0 ∨ b' = 1) -> Calls Tryz.prog 49 #[.agg #[.bool cl, .slice A1 32 c1, .slice A2 32 c2, .slice A3 32 c3, .int .i64 a', .int .i64 b']] w fun e w' => e = .returned (.bool true) ∧ Below w.heap.size w w' := by
  clear hA hB ha hb; intro a' b' hA hB
  go_enter Tryz.func49, Tryz.ntmps49
  go_upto_region 1 with fail
  obtain ⟨y1, x_, ey1, ex_⟩ : ∃ y1 x_, y1 = w.alloc (.cells #[.bool cl, .slice A1 32 c1, .slice A2 32 c2, .slice A3 32 c3, .int .i64 a', .int .i64 b'] 60) ∧ x_ = w.heap.size := ⟨_, _, rfl, rfl⟩; rw [<- ey1, <- ex_]; have hb1 : Below w.heap.size w y1 := by rw [ey1]; exact below_alloc1 _ _
  have BX := qq (show Blk y1 x_ 60 #[.bool cl, .slice A1 32 c1, .slice A2 32 c2, .slice A3 32 c3, .int .i64 a', .int .i64 b'] by rw [ey1, ex_]; exact blk_new1_0 _ _ _); have H1 := qs H1 hb1; have H2 := qs H2 hb1; have H3 := qs H3 hb1; have RW := qq hb1; clear hb1 ey1 ex_; have cX := BX.out.cell; have W3 : ∀ (Q : Exit -> Act -> World -> Prop), True := fun _ => trivial
  rcases hA with rfl | rfl <;> rcases hB with rfl | rfl
  all_goals
   go_wp2_with fail
   refine (keyed_any cl A1 c1 s _ H1.out).mono ?_; rintro e y2 ⟨A4, A5, rfl, h4, h5, hb2⟩; have BX := qs BX hb2; have H2 := qs H2 hb2; have H3 := qs H3 hb2; have R2 := qt RW hb2; have H4 := qq h4; have H5 := qq h5; clear h4 h5 hb2 cX
   go_upto_region 4 with (refine wpList_store_part rfl 60 _ _ rfl y2.heap.size 0 60 [] chZ [] [.bool cl, .slice A1 32 c1, .slice A4 32 32, .slice A5 32 32, .int .i64 0, .int .i64 0] rfl rfl (Blk.new _ _ _) rfl rfl infoCh (by simp [Value.oneCell']) ?_; intro y3 D3 G3; rw [List.append_nil, List.nil_append] at D3)
   have hb3 := below_new_store G3; obtain ⟨k_, ek⟩ : ∃ k_, k_ = y2.heap.size := ⟨_, rfl⟩; rw [<- ek] at D3 ⊢; have BX := qs BX hb3; have H2 := qs H2 hb3; have H3 := qs H3 hb3; have H4 := qs H4 hb3; have H5 := qs H5 hb3; have R3 := qt R2 hb3; have cX := BX.out.cell; have cK := D3.cell; clear hb3 ek G3 R2
   go_wp2_with fail
   refine (octSame_any A4 32 32 _ A2 32 c2 _ _ H4.out H2.out).mono ?_; rintro e y4 ⟨rfl, rfl⟩; rw [show decide (sendK cl s = sendK cl s) = true from decide_eq_true rfl]
   go_wp2_with fail
   refine (octSame_any A5 32 32 _ A3 32 c3 _ _ H5.out H3.out).mono ?_; rintro e y4 ⟨rfl, rfl⟩; rw [show decide (recvK cl s = recvK cl s) = true from decide_eq_true rfl]; go_wp2; go_ret; exact ⟨rfl, R3.out⟩
 exact key a' b' hA hB
theorem data_any (k : Nat) (hk : k <= 1) (A : Option Addr) (n c : Nat) (l : List UInt8) (w : World) (hv : Bytes w A n c l) : Calls Tryz.prog 68 #[.int .i64 k, .slice A n c] w fun e w' => ∃ A', e = .returned (.slice A' 2 2) ∧ Lists w' A' 2 2 [putL k 8, l] ∧ Below w.heap.size w w' := by
 have HV := qq hv; clear hv; have hk2 : (k : Int) < 18446744073709551616 := by omega
 go_enter Tryz.func68, Tryz.ntmps68
 go_wp2_with fail
 refine (put_reads k 8 (by decide) _).mono ?_; rintro e y1 ⟨A1, c1, rfl, h1, hb1⟩; have H1 := qq h1; have HV := qs HV hb1; have R1 := qq hb1; clear h1 hb1; go_wp2; go_ret; exact ⟨_, rfl, lists_made2 H1.out HV.out, R1.out.alloc R1.out.size _⟩
end Go.Proofs.YtiemnacoebkalaaGreat
