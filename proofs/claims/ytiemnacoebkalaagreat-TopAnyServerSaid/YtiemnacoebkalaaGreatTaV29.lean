import Derived.Test.YtiemnacoebkalaaGreatTaV13
import Derived.Test.YtiemnacoebkalaaGreatTaV22
import Derived.Test.YtiemnacoebkalaaGreatTaV27
import Derived.Test.YtiemnacoebkalaaGreatTaV28
set_option linter.all false
set_option maxRecDepth 100000
set_option maxHeartbeats 4000000
namespace Go.Proofs.YtiemnacoebkalaaGreat
open Go Go.RowKit
def headB (n : Nat) : List UInt8 := [0] ++ putL (n + 16) 2
def recB (cl : Bool) (s : List UInt8) (k : Nat) (l : List UInt8) : List UInt8 := headB l.length ++ sealB (sendK cl s) [putL k 8, headB l.length] l
theorem headB_length (n : Nat) : (headB n).length = 3 := by unfold headB; rw [List.length_append, putL_length]; rfl
theorem recB_length (cl : Bool) (s : List UInt8) (k : Nat) (l : List UInt8) : (recB cl s k l).length = 3 + (16 + l.length) := by unfold recB; rw [List.length_append, headB_length, sealB_length]
theorem recvK_eq (cl : Bool) (s : List UInt8) : recvK cl s = sendK (!cl) s := by cases cl <;> simp [recvK, sendK]
theorem listAt2 {a b : List UInt8} {n : Nat} (ha : a.length <= n) (hb : b.length <= n) : ∀ i, (listAt [a, b] i).length <= n := by
 intro i
 match i with
 | 0 => exact ha
 | 1 => exact hb
 | i + 2 => exact Nat.zero_le _
theorem send_any (v : Value) (cl : Bool) (s : List UInt8) (a b0 : Nat) (ha : a <= 1) (hb : b0 <= 1) (Ab : Option Addr) (n cb : Nat) (l : List UInt8) (w : World) (h : Chan w v cl s a b0) (hl : Bytes w Ab n cb l) (hn : n <= 16384) : Calls Tryz.prog 26 #[v, .int .i64 0, .slice Ab n cb] w fun e w' => ∃ u A' c', e = .returned (.tuple #[u, .slice A' (3 + (16 + n)) c', .int .i64 0]) ∧ Chan w' u cl s (a + 1 : Nat) b0 ∧ Bytes w' A' (3 + (16 + n)) c' (recB cl s a l) ∧ Below w.heap.size w w' := by
 have HC := qq h; have HB := qq hl; have hll := hl.len; have h' := h; obtain ⟨A1, c1, A2, c2, A3, c3, rfl, _, _, _⟩ := h'; have HK := qq (show ∀ W, Chan W (.agg #[.bool cl, .slice A1 32 c1, .slice A2 32 c2, .slice A3 32 c3, .int .i64 a, .int .i64 b0]) cl s a b0 -> Bytes W A2 32 c2 (sendK cl s) from fun W hW => by
  obtain ⟨B1, d1, B2, d2, B3, d3, e, _, h2, _⟩ := hW; injection e with e
  simp only [Array.mk.injEq, List.cons.injEq, Value.slice.injEq] at e; obtain ⟨_, _, ⟨rfl, _, rfl⟩, _⟩ := e; exact h2)
 have nI : ¬ (16384 : Int) < (n : Int) := by omega
 have nI2 : (n : Int) + 16400 - 16384 = (n : Int) + 16 := by omega
 obtain ⟨m, hm⟩ : ∃ m, n + 16 = m := ⟨_, rfl⟩; have nI3 : (n : Int) + 16 = (m : Int) := by omega
 obtain ⟨m2, hm2⟩ : ∃ m2, n + 16400 = m2 := ⟨_, rfl⟩; have nI4 : (n : Int) + 16400 = (m2 : Int) := by omega
 have nI5 : (m2 : Int) - 16384 = (m : Int) := by omega
 have aI : ¬ (a : Int) = 1099511627776 := by omega
 obtain ⟨a1, ha1⟩ : ∃ a1, a + 1 = a1 := ⟨_, rfl⟩; have aI2 : (a : Int) + 1 = (a1 : Int) := by omega
 rw [ha1]; have HM := qq hm; have HL := qq hll; clear h hl nI2 hm2 hll ha1; have hmb : m <= 20000 := by have := HM.out; omega
 clear hm
 go_enter Tryz.func26, Tryz.ntmps26
 go_upto_region 1 with fail
 obtain ⟨y1, x_, r_, ey1, ex_, er_⟩ : ∃ y1 x_ r_, y1 = (w.alloc (.cells #[.bool cl, .slice A1 32 c1, .slice A2 32 c2, .slice A3 32 c3, .int .i64 a, .int .i64 b0] 60)).alloc (.cells chZ.toArray 60) ∧ x_ = w.heap.size ∧ r_ = w.heap.size + 1 := ⟨_, _, _, rfl, rfl, rfl⟩; rw [show (#[.bool false, .slice none 0 0, .slice none 0 0, .slice none 0 0, .int .i64 0, .int .i64 0] : Array Value) = chZ.toArray from rfl]; rw [<- ey1, <- er_, <- ex_]; have hb1 : Below w.heap.size w y1 := by rw [ey1]; exact below_alloc2 _ _ _
 have BX := qq (show Blk y1 x_ 60 #[.bool cl, .slice A1 32 c1, .slice A2 32 c2, .slice A3 32 c3, .int .i64 a, .int .i64 b0] by rw [ey1, ex_]; exact blk_new2_0 _ _ _ _ _); have BR := qq (show Blk y1 r_ 60 chZ.toArray by rw [ey1, er_]; exact blk_new2_1 _ _ _ _ _); have wr_ : w.heap.size <= r_ := by omega
 have xr : x_ < r_ := by omega
 have HC := qs HC hb1; have HB := qs HB hb1; have RW := qq hb1; clear hb1 ey1 er_ ex_
 go_wp2_with (refine wpList_load_part rfl 60 _ rfl x_ 0 60 [] [.bool cl, .slice A1 32 c1, .slice A2 32 c2, .slice A3 32 c3, .int .i64 a, .int .i64 b0] [] _ rfl BX.out rfl Tryz.underlying60 rfl infoCh ?_)
 refine (chValid_any _ cl s a b0 ha hb _ HC.out).mono ?_; rintro e y2 ⟨rfl, hb2⟩; have BX := qs BX hb2; have BR := qs BR hb2; have HC := qs HC hb2; have HB := qs HB hb2; have RW := qt RW hb2; clear hb2

 have cX := BX.out.cell
 go_wp2_with fail
 refine (put_reads m 2 (by decide) _).mono ?_; rintro e y3 ⟨A4, c4, rfl, h4, hb3⟩; have hx3 : Below y2.heap.size y2 y3 := ((Below.refl _ _).alloc (Nat.le_refl _) _).trans (hb3.mono (by simp)); have B4 := qq h4; have B0 := qq (show Bytes y3 (some ⟨y2.heap.size, 0, none⟩) 1 1 [0] from (show Bytes _ _ 1 1 [0] from blk_bytes (T := 5) (Blk.new y2 5 _) (by decide)).stays hb3); obtain ⟨z_, ez⟩ : ∃ z_, z_ = y2.heap.size := ⟨_, rfl⟩; rw [<- ez] at B0 ⊢; have BX := qs BX hx3; have BR := qs BR hx3; have HC := qs HC hx3; have HB := qs HB hx3; have RW := qt RW hx3; clear h4 hb3 hx3 ez cX
 go_wp2_with fail
 refine (join_any _ _ _ [[0], putL m 2] _ (lists_made2 B0.out B4.out) 3 (by simp [putL_length]) (by decide)).mono ?_; rintro e y4 ⟨A5, c5, rfl, ho, hb4⟩; have hx4 : Below y3.heap.size y3 y4 := ((Below.refl _ _).alloc (Nat.le_refl _) _).trans (hb4.mono (by simp)); obtain ⟨hd, hhd⟩ : ∃ hd, headB n = hd := ⟨_, rfl⟩; have HH : Hid (Bytes y4 A5 3 c5 hd) := by
  have h2 := own_rd ho; have e : [[0], putL m 2].flatten = hd := by rw [<- hhd]; unfold headB; rw [HM.out]; simp
  rw [e] at h2; exact h2
 have hdl : hd.length = 3 := by rw [<- hhd]; exact headB_length n
 have HHD := qq hhd; have BX := qs BX hx4; have BR := qs BR hx4; have HC := qs HC hx4; have HB := qs HB hx4; have RW := qt RW hx4; clear hb4 hx4 ho hhd B0 B4

 go_upto_region 10 with fail
 refine mono_start (fun _ => True) [pv (.pointer (some ⟨x_, 2, none⟩)), pv (.slice A2 32 c2), pv (.pointer (some ⟨x_, 4, none⟩)), pv (.int .i64 a), pv (.slice A5 3 c5), mv (fun v u => ∃ A', v = .slice A' 2 2 ∧ Lists u A' 2 2 [putL a 8, hd]), pv (.slice Ab n cb), mv (fun v u => ∃ A' c', v = .tuple #[.slice A' (16 + n) c', .int .i64 0] ∧ Bytes u A' (16 + n) c' (sealB (sendK cl s) [putL a 8, hd] l)), mv (fun v u => ∃ A' c', v = .tuple #[.slice A' (16 + n) c', .int .i64 0] ∧ Bytes u A' (16 + n) c' (sealB (sendK cl s) [putL a 8, hd] l)), mv (fun v u => ∃ A' c', v = .slice A' (16 + n) c' ∧ Bytes u A' (16 + n) c' (sealB (sendK cl s) [putL a 8, hd] l)), pv (.int .i64 0), mv (fun v u => ∃ A' c', v = .slice A' (16 + n) c' ∧ Bytes u A' (16 + n) c' (sealB (sendK cl s) [putL a 8, hd] l)), pv (.int .i64 0)] (by kernel_rfl) (by kernel_rfl) (fun OPS AV AL K w0 hO hA hL hK hb0 hz => ?_); refine step_pv (d := (some 47)) (hO.out 0 _ rfl) rfl rfl (fun wq hw => ?_) ?_
 · clear hO hA hL hK
   go_simp; try first | with_reducible rfl | assumption | decide
 try simp only [qp, qn]
 refine step_pg (d := (some 48)) (hO.out 1 _ rfl) rfl rfl (fun wq hw gt => ?_) ?_
 · have hx : Below y4.heap.size y4 wq := hb0.trans (hw.mono hb0.size); have c1 := (BX.out.stays hx).cell 2; clear gt hO hA hL hK
   go_simp; try first | with_reducible rfl | assumption | decide
 try simp only [qp, qn]
 refine step_pv (d := (some 49)) (hO.out 2 _ rfl) rfl rfl (fun wq hw => ?_) ?_
 · clear hO hA hL hK
   go_simp; try first | with_reducible rfl | assumption | decide
 try simp only [qp, qn]
 refine step_pg (d := (some 50)) (hO.out 3 _ rfl) rfl rfl (fun wq hw gt => ?_) ?_
 · have hx : Below y4.heap.size y4 wq := hb0.trans (hw.mono hb0.size); have c1 := (BX.out.stays hx).cell 4; clear gt hO hA hL hK
   go_simp; try first | with_reducible rfl | assumption | decide
 try simp only [qp, qn]
 refine step_pv (d := (some 51)) (hO.out 4 _ rfl) rfl rfl (fun wq hw => ?_) ?_
 · clear hO hA hL hK
   go_simp; try first | with_reducible rfl | assumption | decide
 try simp only [qp, qn]
 refine step_mc (d := (some 52)) (hO.out 5 _ rfl) rfl rfl (fun wq hw gt => ?_) (fun v_5 x_5 => ?_)
 · have hx : Below y4.heap.size y4 wq := hb0.trans (hw.mono hb0.size); refine ⟨_, _, ?_, (data_any a ha A5 3 c5 hd _ (HH.out.stays hx)).mono (fun e q h => ?_)⟩
   · clear gt hO hA hL hK
     go_simp
   obtain ⟨A', rfl, h1, h2⟩ := h; exact ⟨_, rfl, ⟨A', rfl, h1⟩, h2⟩
 try simp only [qp, qn]
 refine step_pv (d := (some 53)) (hO.out 6 _ rfl) rfl rfl (fun wq hw => ?_) ?_
 · clear hO hA hL hK
   go_simp; try first | with_reducible rfl | assumption | decide
 try simp only [qp, qn]
 refine step_mc (d := (some 54)) (hO.out 7 _ rfl) rfl rfl (fun wq hw gt => ?_) (fun v_7 x_7 => ?_)
 · have hx : Below y4.heap.size y4 wq := hb0.trans (hw.mono hb0.size); obtain ⟨⟨A', rfl, hLs⟩, hbk⟩ := (gt 5 (hA.out 7 5 (by kernel_rfl))); refine ⟨_, _, ?_, (seal_any (sendK cl s) A2 c2 A' 2 2 [putL a 8, hd] Ab n cb l _ (HK.out _ (HC.out.stays hx)) (hLs.stays hbk) (HB.out.stays hx) (by decide) (by decide) (listAt2 (by rw [putL_length]; decide) (by rw [hdl]; decide)) (by omega)).mono (fun e q h => ?_)⟩
   · clear gt hO hA hL hK
     go_simp
   obtain ⟨A2, c2, rfl, h1, _, h2⟩ := h; exact ⟨_, rfl, ⟨A2, c2, rfl, h1⟩, h2⟩
 try simp only [qp, qn]
 refine step_mv (d := (some 46)) (hO.out 8 _ rfl) rfl rfl (fun wq hw gt => ?_) (fun v_8 x_8 => ?_)
 · have hx : Below y4.heap.size y4 wq := hb0.trans (hw.mono hb0.size); obtain ⟨⟨A', c', rfl, hB'⟩, hbk⟩ := (gt 7 (hA.out 8 7 (by kernel_rfl))); refine ⟨_, _, ?_, ⟨A', c', rfl, hB'.stays hbk⟩, Below.refl _ _⟩; clear gt hO hA hL hK
   go_simp; try first | with_reducible rfl | rfl
 try simp only [qp, qn]
 refine step_mv (d := (some 55)) (hO.out 9 _ rfl) rfl rfl (fun wq hw gt => ?_) (fun v_9 x_9 => ?_)
 · have hx : Below y4.heap.size y4 wq := hb0.trans (hw.mono hb0.size); obtain ⟨⟨A', c', rfl, hB'⟩, hbk⟩ := (gt 8 (hA.out 9 8 (by kernel_rfl))); refine ⟨_, _, ?_, ⟨A', c', rfl, hB'.stays hbk⟩, Below.refl _ _⟩; clear gt hO hA hL hK
   go_simp; try first | with_reducible rfl | rfl
 try simp only [qp, qn]
 refine step_pg (d := (some 56)) (hO.out 10 _ rfl) rfl rfl (fun wq hw gt => ?_) ?_
 · have hx : Below y4.heap.size y4 wq := hb0.trans (hw.mono hb0.size); obtain ⟨⟨A', c', rfl, hB'⟩, hbk⟩ := (gt 8 (hA.out 10 8 (by kernel_rfl))); clear gt hO hA hL hK
   go_simp; try first | with_reducible rfl | assumption | decide
 try simp only [qp, qn]
 refine step_mv (d := (some 10)) (hO.out 11 _ rfl) rfl rfl (fun wq hw gt => ?_) (fun v_11 x_11 => ?_)
 · have hx : Below y4.heap.size y4 wq := hb0.trans (hw.mono hb0.size); obtain ⟨⟨A', c', rfl, hB'⟩, hbk⟩ := (gt 9 (hA.out 11 9 (by kernel_rfl))); refine ⟨_, _, ?_, ⟨A', c', rfl, hB'.stays hbk⟩, Below.refl _ _⟩; clear gt hO hA hL hK
   go_simp; try first | with_reducible rfl | rfl
 try simp only [qp, qn]
 refine step_pv (d := (some 11)) (hO.out 12 _ rfl) rfl rfl (fun wq hw => ?_) ?_
 · clear hO hA hL hK
   go_simp; try first | with_reducible rfl | assumption | decide
 try simp only [qp, qn]
 refine fun wq hw gt => hK.out _ _ ?_
 obtain ⟨⟨A6, c6, rfl, h6⟩, hb6⟩ := (gt 11 (hL.out 11 (by kernel_rfl))); have hx : Below y4.heap.size y4 wq := hb0.trans (hw.mono hb0.size); have HS := qq (h6.stays hb6); clear gt hO hA hL hK h6 hb6 hb0 hz hw; refine wpAnyH_done (by kernel_rfl) ?_ _; have BX := qs BX hx; have BR := qs BR hx; have HC := qs HC hx; have HH := qs HH hx; have RW := qt RW hx; clear hx; have cX := BX.out.cell
 go_wp2_with (refine wpList_load_part rfl 60 _ rfl x_ 0 60 [] [.bool cl, .slice A1 32 c1, .slice A2 32 c2, .slice A3 32 c3, .int .i64 a, .int .i64 b0] [] _ rfl BX.out rfl Tryz.underlying60 rfl infoCh ?_)
 refine (copied_any _ cl s a b0 a1 b0 _ HC.out).mono ?_; rintro e y6 ⟨u, rfl, hu, hb7⟩; have BR := qs BR hb7; have HH := qs HH hb7; have HS := qs HS hb7; have RW := qt RW hb7; obtain ⟨B1, d1, B2, d2, B3, d3, rfl, k1, k2, k3⟩ := hu; have K1 := qq k1; have K2 := qq k2; have K3 := qq k3; clear k1 k2 k3 hb7 cX
 go_wp2_with fail
 refine (join_any _ _ _ [hd, sealB (sendK cl s) [putL a 8, hd] l] _ (lists_made2 HH.out HS.out) (3 + (16 + n)) (by simp [hdl, sealB_length, HL.out]) (by omega)).mono ?_; rintro e y7 ⟨A7, c7, rfl, ho, hb8⟩; have hx8 : Below y6.heap.size y6 y7 := ((Below.refl _ _).alloc (Nat.le_refl _) _).trans (hb8.mono (by simp)); have HR : Hid (Bytes y7 A7 (3 + (16 + n)) c7 (recB cl s a l)) := by
  have h2 := own_rd ho; have e : [hd, sealB (sendK cl s) [putL a 8, hd] l].flatten = recB cl s a l := by unfold recB; rw [HL.out, HHD.out]; simp
  rw [e] at h2; exact h2
 have BR := qs BR hx8; have K1 := qs K1 hx8; have K2 := qs K2 hx8; have K3 := qs K3 hx8; have RW := qt RW hx8; clear ho hb8 hx8 HS HH
 go_wp2_with (refine wpList_store_part rfl 60 _ _ rfl r_ 0 60 [] chZ [] [.bool cl, .slice B1 32 d1, .slice B2 32 d2, .slice B3 32 d3, .int .i64 a1, .int .i64 b0] rfl rfl BR.out rfl rfl infoCh (by simp [Value.oneCell']) ?_; intro y8 D8 G8; rw [List.append_nil, List.nil_append] at D8)
 refine bodyPost_ret (results_whole3 rfl _ _ r_ _ _ _ _ _ rfl rfl rfl D8 Tryz.underlying60 rfl infoCh) rfl ⟨_, A7, c7, rfl, ⟨B1, d1, B2, d2, B3, d3, rfl, K1.out.kept G8 (off_block K1.out BR.out rfl), K2.out.kept G8 (off_block K2.out BR.out rfl), K3.out.kept G8 (off_block K3.out BR.out rfl)⟩, HR.out.kept G8 (off_block HR.out BR.out rfl), ?_⟩; exact RW.out.grown G8 RW.out.size (fun k hk => by cases hk; exact wr_)
def cookP (al : Nat) (up dn : List UInt8) : List UInt8 := putL al 2 ++ ([0, 0] ++ (up ++ dn))
def ckB (id : Nat) (key nonce l : List UInt8) : List UInt8 := putL id 4 ++ (nonce ++ sealB key [putL id 4, nonce] l)
def cookB (id : Nat) (key nonce : List UInt8) (al : Nat) (up dn : List UInt8) : List UInt8 := ckB id key nonce (cookP al up dn)
theorem make_z2 (w : World) : (Instr.makeSlice 27 (.int .i64 2) (.int .i64 2)).run Tryz.prog w =
    .ok (.slice (some ⟨w.heap.size, 0, none⟩) 2 2) (w.alloc (.cells (bytesC [0, 0]) 5)) := by
 obtain ⟨i0, hi, hz0, hz1, hz2⟩ := info_parts infoByteA; have := run_make (P := Tryz.prog) w 27 5 i0 (.int .u8 0) Tryz.underlying27 hi hz0 .i64 .i64 2 2 (by omega) (by omega) (by rw [hz2]; omega) (by omega); have e : madeCells #[Value.int .u8 0] 2 = bytesC [0, 0] := by kernel_rfl
 rw [<- e]
 simpa [hz1, Value.cells] using this
theorem ckSeal_any (id : Nat) (hid : id <= 4294967295) (key : List UInt8) (Ak : Option Addr) (ck : Nat) (An : Option Addr) (cn : Nat) (nonce : List UInt8) (Ap : Option Addr) (n cp : Nat) (l : List UInt8) (w : World) (hk : Bytes w Ak 32 ck key) (hn : Bytes w An 16 cn nonce) (hp : Bytes w Ap n cp l) (hl : n <= 60000) :
    Calls Tryz.prog 99 #[.agg #[.int .i64 id, .slice Ak 32 ck], .slice An 16 cn, .slice Ap n cp] w fun e w' => ∃ A' c', e = .returned (.slice A' (20 + (16 + n)) c') ∧ Bytes w' A' (20 + (16 + n)) c' (ckB id key nonce l) ∧ Fresh w.heap.size A' ∧ Below w.heap.size w w' := by
 have HK := qq hk; have HN := qq hn; have HP := qq hp; have idI : (id : Int) < 18446744073709551616 := by omega
 clear hk hn hp
 go_enter Tryz.func99, Tryz.ntmps99
 go_upto_region 1 with fail
 obtain ⟨y1, x_, ey1, ex_⟩ : ∃ y1 x_, y1 = w.alloc (.cells #[.int .i64 id, .slice Ak 32 ck] 126) ∧ x_ = w.heap.size := ⟨_, _, rfl, rfl⟩; rw [<- ey1, <- ex_]; have BX := qq (show Blk y1 x_ 126 #[.int .i64 id, .slice Ak 32 ck] by rw [ey1, ex_]; exact blk_new1_0 _ _ _); have RW := qq (show Below w.heap.size w y1 by rw [ey1]; exact below_alloc1 _ _); clear ey1 ex_; have kc1 := BX.out.cell 0
 go_wp2_with fail
 refine (put_reads id 4 (by decide) _).mono ?_; rintro e y2 ⟨A1, c1, rfl, h1, hb⟩; have H1 := qq h1; have BX := qs BX hb; have RW := qt RW hb; clear h1 hb kc1; have kc1 := BX.out.cell 1; have HN2 := qq (HN.out.stays RW.out); have SEAL := qq (fun (W : World) (A' : Option Addr) hls hbW => seal_any key Ak ck A' 2 2 [putL id 4, nonce] Ap n cp l W (HK.out.stays (RW.out.trans (Below.mono hbW RW.out.size))) hls (HP.out.stays (RW.out.trans (Below.mono hbW RW.out.size))) (by decide) (by decide) (listAt2 (by rw [putL_length]; decide) (by rw [HN.out.len]; decide)) (by omega))
 go_wp2_with fail
 refine (SEAL.out _ _ (lists_made2 H1.out HN2.out) (below_alloc1 _ _)).mono ?_; rintro e y3 ⟨A2, c2, rfl, h2, _, hb⟩; have hx : Below y2.heap.size y2 y3 := (below_alloc1 _ _).trans (hb.mono (by simp)); have H2 := qq h2; have H1 := qs H1 hx; have RW := qt RW hx; clear h2 hb hx kc1 HN2 SEAL; have HN := qq (HN.out.stays RW.out)
 go_wp2_with fail
 refine (join_any _ _ _ [putL id 4, nonce, sealB key [putL id 4, nonce] l] _ (lists_made3 H1.out HN.out H2.out) (20 + (16 + n)) (by simp [putL_length, sealB_length, HP.out.len, HN.out.len]; omega) (by omega)).mono ?_; rintro e y4 ⟨A3, c3, rfl, ho, hb⟩; have hx : Below y3.heap.size y3 y4 := (below_alloc1 _ _).trans (hb.mono (by simp)); have HO := qq ho; have R4 := qt RW hx; clear ho hb hx; go_wp2; go_ret; refine ⟨A3, c3, rfl, ?_, (Fresh.own HO.out).more (Nat.le_trans RW.out.size (by simp)), R4.out⟩; have h := own_rd HO.out; rw [show [putL id 4, nonce, sealB key [putL id 4, nonce] l].flatten = ckB id key nonce l by simp [ckB]] at h; exact h
theorem ckCut_any (g o n c : Nat) (hn : 21 <= n) (hnc : n <= c) (hc : c <= 9223372036854775807) (w : World) :
    Calls Tryz.prog 96 #[.slice (some ⟨g, o, none⟩) n c] w fun e w' => e = .returned (.tuple #[.slice (some ⟨g, o, none⟩) 4 c, .slice (some ⟨g, o + 4, none⟩) 16 (c - 4), .slice (some ⟨g, o + 20, none⟩) (n - 20) (c - 20)]) ∧ Below w.heap.size w w' := by
 have k1 : ¬ c = 4 := by omega
 have k2 : ¬ c < 4 := by omega
 have k3 : ¬ n < 20 := by omega
 have k4 : ¬ c < 20 := by omega
 have k5 : ¬ n < 4 := by omega
 have k6 : ¬ (c : Int) < 4 := by omega
 have k7 : ¬ (c : Int) < 20 := by omega
 have k8 : ¬ (n : Int) < 20 := by omega
 have k9 : (20 : Int) <= (n : Int) := by omega
 have k10 : 20 <= n := by omega
 have k11 : ¬ c = 20 := by omega
 go_enter Tryz.func96, Tryz.ntmps96
 go_upto_region 1 with fail
 refine mono_start (fun _ => True) [pv (.slice (some ⟨g, o, none⟩) n c), pv (.slice (some ⟨g, o, none⟩) 4 c), pv (.slice (some ⟨g, o, none⟩) n c), pv (.slice (some ⟨g, o + 4, none⟩) 16 (c - 4)), pv (.slice (some ⟨g, o, none⟩) n c), pv (.slice (some ⟨g, o + 20, none⟩) (n - 20) (c - 20)), pv (.slice (some ⟨g, o, none⟩) 4 c), pv (.slice (some ⟨g, o + 4, none⟩) 16 (c - 4)), pv (.slice (some ⟨g, o + 20, none⟩) (n - 20) (c - 20))] (by kernel_rfl) (by kernel_rfl) (fun OPS AV AL K w0 hO hA hL hK hb0 hz => ?_); refine step_pv (d := (some 5)) (hO.out 0 _ rfl) rfl rfl (fun wq hw => ?_) ?_
 · clear hO hA hL hK
   go_simp; try first | with_reducible rfl | assumption | decide
 try simp only [qp, qn]
 refine step_pv (d := (some 6)) (hO.out 1 _ rfl) rfl rfl (fun wq hw => ?_) ?_
 · clear hO hA hL hK
   go_simp; try first | with_reducible rfl | assumption | decide
 try simp only [qp, qn]
 refine step_pv (d := (some 7)) (hO.out 2 _ rfl) rfl rfl (fun wq hw => ?_) ?_
 · clear hO hA hL hK
   go_simp; try first | with_reducible rfl | assumption | decide
 try simp only [qp, qn]
 refine step_pv (d := (some 8)) (hO.out 3 _ rfl) rfl rfl (fun wq hw => ?_) ?_
 · clear hO hA hL hK
   go_simp; try first | with_reducible rfl | assumption | decide
 try simp only [qp, qn]
 refine step_pv (d := (some 9)) (hO.out 4 _ rfl) rfl rfl (fun wq hw => ?_) ?_
 · clear hO hA hL hK
   go_simp; try first | with_reducible rfl | assumption | decide
 try simp only [qp, qn]
 refine step_pv (d := (some 10)) (hO.out 5 _ rfl) rfl rfl (fun wq hw => ?_) ?_
 · clear hO hA hL hK
   go_simp; try first | with_reducible rfl | assumption | decide
 try simp only [qp, qn]
 refine step_pv (d := (some 2)) (hO.out 6 _ rfl) rfl rfl (fun wq hw => ?_) ?_
 · clear hO hA hL hK
   go_simp; try first | with_reducible rfl | assumption | decide
 try simp only [qp, qn]
 refine step_pv (d := (some 3)) (hO.out 7 _ rfl) rfl rfl (fun wq hw => ?_) ?_
 · clear hO hA hL hK
   go_simp; try first | with_reducible rfl | assumption | decide
 try simp only [qp, qn]
 refine step_pv (d := (some 4)) (hO.out 8 _ rfl) rfl rfl (fun wq hw => ?_) ?_
 · clear hO hA hL hK
   go_simp; try first | with_reducible rfl | assumption | decide
 try simp only [qp, qn]
 refine fun wq hw gt => hK.out _ _ ?_
 have hx : Below w.heap.size w wq := hb0.trans (hw.mono hb0.size); clear gt hO hA hL hK; refine wpAnyH_done (by kernel_rfl) ?_ _; go_wp2
 go_returns
 exact ⟨rfl, hx⟩
theorem ckMake_any (v : Value) (ks : List (Int × List UInt8)) (id : Nat) (key : List UInt8) (rest : List (Int × List UInt8)) (he : ks = ((id : Int), key) :: rest) (Au : Option Addr) (cu : Nat) (up : List UInt8) (Ad : Option Addr) (cd : Nat) (dn : List UInt8) (An : Option Addr) (cn : Nat) (nonce : List UInt8) (w : World) (h : RingV w v ks) (hg : RingG ks) (hu : Bytes w Au 32 cu up) (hd : Bytes w Ad 32 cd dn) (hn : Bytes w An 16 cn nonce) :
    Calls Tryz.prog 45 #[v, .int .i64 15, .agg #[.slice Au 32 cu, .slice Ad 32 cd], .slice An 16 cn] w fun e w' => ∃ A' c', e = .returned (.tuple #[.slice A' 104 c', .int .i64 0]) ∧ Bytes w' A' 104 c' (cookB id key nonce 15 up dn) ∧ Fresh w.heap.size A' ∧ Below w.heap.size w w' := by
 have HV := qq (fun W hW => ckValid_any v ks W hW hg); have HR := qq h; have hks : 0 < ks.length := by rw [he]; simp
 have ht0 : fldT ks 0 = (id : Int) := by rw [he]; rfl
 have hd0 : fldD ks 0 = key := by rw [he]; rfl
 have hg0 := hg.2.2.1 0 hks; rw [ht0, hd0] at hg0; have hid : id <= 4294967295 := by omega
 obtain ⟨A, n, c, rfl, hF⟩ := h; have hn0 : 0 < n := by have := hF.len; omega
 obtain ⟨g, o, Ak, nk, ck, rfl, hc1, hc2, hK⟩ := hF.at_ hn0; rw [ht0] at hc1; rw [hd0] at hK; have hnk : nk = 32 := by have := hK.len; omega
 subst hnk; have hc1 : w.cell? ⟨g, o, none⟩ = some (.int .i64 id) := by simpa using hc1
 have hc2 : w.cell? ⟨g, o + 1, none⟩ = some (.slice Ak 32 ck) := by simpa using hc2
 have hc1 := qq hc1; have hc2 := qq hc2; have HK := qq hK; have HU := qq hu; have HD := qq hd; have HN := qq hn; have hFle := hF.le; have hFc := hF.cap; have nI : (0 : Int) < (n : Int) := by omega
 clear hF hK hu hd hn hg0 hg he ht0 hd0 hks
 go_enter Tryz.func45, Tryz.ntmps45
 go_upto_region 1 with fail
 obtain ⟨y1, x_, p_, ey1, ex_, ep_⟩ : ∃ y1 x_ p_, y1 = (w.alloc (.cells #[.slice (some ⟨g, o, none⟩) n c] 25)).alloc (.cells #[.slice Au 32 cu, .slice Ad 32 cd] 29) ∧ x_ = w.heap.size ∧ p_ = w.heap.size + 1 := ⟨_, _, _, rfl, rfl, rfl⟩; rw [<- ey1, <- ep_, <- ex_]; have hb1 : Below w.heap.size w y1 := by rw [ey1]; exact below_alloc2 _ _ _
 have BX := qq (show Blk y1 x_ 25 #[.slice (some ⟨g, o, none⟩) n c] by rw [ey1, ex_]; exact blk_new2_0 _ _ _ _ _); have BP := qq (show Blk y1 p_ 29 #[.slice Au 32 cu, .slice Ad 32 cd] by rw [ey1, ep_]; exact blk_new2_1 _ _ _ _ _); have RW := qq hb1; clear hb1 ey1 ex_ ep_; have c1 := BX.out.cell 0
 go_wp2_with fail
 refine (HV.out _ (HR.out.stays RW.out)).mono ?_; rintro e y2 ⟨rfl, hb⟩; have BX := qs BX hb; have BP := qs BP hb; have RW := qt RW hb; have hc1 := qq (cell_stays RW.out hc1.out); have hc2 := qq (cell_stays RW.out hc2.out); have HK := qq (HK.out.stays RW.out); have HU := qq (HU.out.stays RW.out); have HD := qq (HD.out.stays RW.out); have HN := qq (HN.out.stays RW.out); clear hb c1; have c1 := BP.out.cell 0; have c2 := BP.out.cell 1
 go_upto_region 9 with fail
 clear c1 c2; refine mono_start (fun _ => True) [pv (.pointer (some ⟨x_, 0, none⟩)), pv (.slice (some ⟨g, o, none⟩) n c), pv (.pointer (some ⟨g, o, none⟩)), pv (.agg #[.int .i64 id, .slice Ak 32 ck]), pv (.slice An 16 cn), pv (.int .i64 15), pv (.int .u64 15), mv (fun v u => ∃ A' c', v = .slice A' 2 c' ∧ Bytes u A' 2 c' (putL 15 2)), mv (fun v u => ∃ A' c', v = .slice A' 2 c' ∧ Bytes u A' 2 c' [0, 0]), pv (.pointer (some ⟨p_, 0, none⟩)), pv (.slice Au 32 cu), pv (.pointer (some ⟨p_, 1, none⟩)), pv (.slice Ad 32 cd), mv (fun v u => ∃ A', v = .slice A' 4 4 ∧ Lists u A' 4 4 [putL 15 2, [0, 0], up, dn]), mv (fun v u => ∃ A' c', v = .slice A' 68 c' ∧ Bytes u A' 68 c' (putL 15 2 ++ ([0, 0] ++ (up ++ dn)))), mv (fun v u => ∃ A' c', v = .slice A' 104 c' ∧ Bytes u A' 104 c' (cookB id key nonce 15 up dn) ∧ Fresh y2.heap.size A'), mv (fun v u => ∃ A' c', v = .slice A' 104 c' ∧ Bytes u A' 104 c' (cookB id key nonce 15 up dn) ∧ Fresh y2.heap.size A'), pv (.int .i64 0)] (by kernel_rfl) (by kernel_rfl) (fun OPS AV AL K w0 hO hA hL hK hb0 hz => ?_); refine step_pv (d := (some 36)) (hO.out 0 _ rfl) rfl rfl (fun wq hw => ?_) ?_
 · clear hO hA hL hK
   go_simp; try first | with_reducible rfl | assumption | decide
 try simp only [qp, qn]
 refine step_pg (d := (some 37)) (hO.out 1 _ rfl) rfl rfl (fun wq hw gt => ?_) ?_
 · have hx : Below y2.heap.size y2 wq := hb0.trans (hw.mono hb0.size); have c1 := (BX.out.stays hx).cell 0; clear gt hO hA hL hK
   go_simp; try first | with_reducible rfl | assumption | decide
 try simp only [qp, qn]
 refine step_pv (d := (some 38)) (hO.out 2 _ rfl) rfl rfl (fun wq hw => ?_) ?_
 · clear hO hA hL hK
   go_simp; try first | with_reducible rfl | assumption | decide
 try simp only [qp, qn]
 refine step_pg (d := (some 39)) (hO.out 3 _ rfl) rfl rfl (fun wq hw gt => ?_) ?_
 · have hx : Below y2.heap.size y2 wq := hb0.trans (hw.mono hb0.size); have c1 := cell_stays hx hc1.out; have c2 := cell_stays hx hc2.out; clear gt hO hA hL hK
   go_simp; try first | with_reducible rfl | assumption | decide
 try simp only [qp, qn]
 refine step_pv (d := (some 40)) (hO.out 4 _ rfl) rfl rfl (fun wq hw => ?_) ?_
 · clear hO hA hL hK
   go_simp; try first | with_reducible rfl | assumption | decide
 try simp only [qp, qn]
 refine step_pv (d := (some 41)) (hO.out 5 _ rfl) rfl rfl (fun wq hw => ?_) ?_
 · clear hO hA hL hK
   go_simp; try first | with_reducible rfl | assumption | decide
 try simp only [qp, qn]
 refine step_pv (d := (some 42)) (hO.out 6 _ rfl) rfl rfl (fun wq hw => ?_) ?_
 · clear hO hA hL hK
   go_simp; try first | with_reducible rfl | assumption | decide
 try simp only [qp, qn]
 refine step_mc (d := (some 43)) (hO.out 7 _ rfl) rfl rfl (fun wq hw gt => ?_) (fun v_7 x_7 => ?_)
 · have hx : Below y2.heap.size y2 wq := hb0.trans (hw.mono hb0.size); refine ⟨_, _, ?_, (put_reads 15 2 (by decide) _).mono (fun e q h => ?_)⟩
   · clear gt hO hA hL hK
     go_simp
   obtain ⟨A', c', rfl, h1, h2⟩ := h; exact ⟨_, rfl, ⟨A', c', rfl, h1⟩, h2⟩
 try simp only [qp, qn]
 refine step_mv (d := (some 44)) (hO.out 8 _ rfl) rfl rfl (fun wq hw gt => ?_) (fun v_8 x_8 => ?_)
 · have hx : Below y2.heap.size y2 wq := hb0.trans (hw.mono hb0.size); have hms := make_z2 wq; refine ⟨_, _, ?_, ⟨_, 2, rfl, blk_bytes (T := 5) (Blk.new wq 5 (bytesC [0, 0])) (by decide)⟩, (Below.refl _ _).alloc (Nat.le_refl _) _⟩; exact run_made (o := _) rfl hms
 try simp only [qp, qn]
 refine step_pv (d := (some 45)) (hO.out 9 _ rfl) rfl rfl (fun wq hw => ?_) ?_
 · clear hO hA hL hK
   go_simp; try first | with_reducible rfl | assumption | decide
 try simp only [qp, qn]
 refine step_pg (d := (some 46)) (hO.out 10 _ rfl) rfl rfl (fun wq hw gt => ?_) ?_
 · have hx : Below y2.heap.size y2 wq := hb0.trans (hw.mono hb0.size); have c1 := (BP.out.stays hx).cell 0; clear gt hO hA hL hK
   go_simp; try first | with_reducible rfl | assumption | decide
 try simp only [qp, qn]
 refine step_pv (d := (some 47)) (hO.out 11 _ rfl) rfl rfl (fun wq hw => ?_) ?_
 · clear hO hA hL hK
   go_simp; try first | with_reducible rfl | assumption | decide
 try simp only [qp, qn]
 refine step_pg (d := (some 48)) (hO.out 12 _ rfl) rfl rfl (fun wq hw gt => ?_) ?_
 · have hx : Below y2.heap.size y2 wq := hb0.trans (hw.mono hb0.size); have c1 := (BP.out.stays hx).cell 1; clear gt hO hA hL hK
   go_simp; try first | with_reducible rfl | assumption | decide
 try simp only [qp, qn]
 refine step_mv (d := (some 49)) (hO.out 13 _ rfl) rfl rfl (fun wq hw gt => ?_) (fun v_13 x_13 => ?_)
 · have hx : Below y2.heap.size y2 wq := hb0.trans (hw.mono hb0.size); obtain ⟨⟨A1, c1, rfl, h1⟩, hb1⟩ := (gt 7 (hA.out 13 7 (by kernel_rfl))); obtain ⟨⟨A2, c2, rfl, h2⟩, hb2⟩ := (gt 8 (hA.out 13 8 (by kernel_rfl))); refine ⟨_, _, ?_, ⟨_, rfl, lists_made4 (E := 27) (h1.stays hb1) (h2.stays hb2) (HU.out.stays hx) (HD.out.stays hx)⟩, (Below.refl _ _).alloc (Nat.le_refl _) _⟩; clear gt hO hA hL hK
   go_simp; try first | with_reducible rfl | rfl
 try simp only [qp, qn]
 refine step_mc (d := (some 50)) (hO.out 14 _ rfl) rfl rfl (fun wq hw gt => ?_) (fun v_14 x_14 => ?_)
 · have hx : Below y2.heap.size y2 wq := hb0.trans (hw.mono hb0.size); obtain ⟨⟨A1, rfl, h1⟩, hb1⟩ := (gt 13 (hA.out 14 13 (by kernel_rfl))); refine ⟨_, _, ?_, (join_any _ _ _ [putL 15 2, [0, 0], up, dn] _ (h1.stays hb1) 68 (by simp [putL_length, HU.out.len, HD.out.len]) (by decide)).mono (fun e q h => ?_)⟩
   · clear gt hO hA hL hK
     go_simp
   obtain ⟨A', c', rfl, ho, hb⟩ := h; have h2 := own_rd ho; rw [show [putL 15 2, [0, 0], up, dn].flatten = putL 15 2 ++ ([0, 0] ++ (up ++ dn)) by simp] at h2; exact ⟨_, rfl, ⟨A', c', rfl, h2⟩, hb⟩
 try simp only [qp, qn]
 refine step_mc (d := (some 51)) (hO.out 15 _ rfl) rfl rfl (fun wq hw gt => ?_) (fun v_15 x_15 => ?_)
 · have hx : Below y2.heap.size y2 wq := hb0.trans (hw.mono hb0.size); obtain ⟨⟨A1, c1, rfl, h1⟩, hb1⟩ := (gt 14 (hA.out 15 14 (by kernel_rfl))); refine ⟨_, _, ?_, (ckSeal_any id hid key Ak ck An cn nonce A1 68 c1 _ wq (HK.out.stays hx) (HN.out.stays hx) (h1.stays hb1) (by decide)).mono (fun e q h => ?_)⟩
   · clear gt hO hA hL hK
     go_simp
   obtain ⟨A', c', rfl, h1, h2, h3⟩ := h; exact ⟨_, rfl, ⟨A', c', rfl, h1, h2.more hx.size⟩, h3⟩
 try simp only [qp, qn]
 refine step_mv (d := (some 8)) (hO.out 16 _ rfl) rfl rfl (fun wq hw gt => ?_) (fun v_16 x_16 => ?_)
 · have hx : Below y2.heap.size y2 wq := hb0.trans (hw.mono hb0.size); obtain ⟨⟨A', c', rfl, h1, h2⟩, hbk⟩ := (gt 15 (hA.out 16 15 (by kernel_rfl))); refine ⟨_, _, ?_, ⟨A', c', rfl, h1.stays hbk, h2⟩, Below.refl _ _⟩; clear gt hO hA hL hK
   go_simp; try first | with_reducible rfl | rfl
 try simp only [qp, qn]
 refine step_pv (d := (some 9)) (hO.out 17 _ rfl) rfl rfl (fun wq hw => ?_) ?_
 · clear hO hA hL hK
   go_simp; try first | with_reducible rfl | assumption | decide
 try simp only [qp, qn]
 refine fun wq hw gt => hK.out _ _ ?_
 obtain ⟨⟨A', c', rfl, h1, h2⟩, hbk⟩ := (gt 16 (hL.out 16 (by kernel_rfl))); have hx : Below y2.heap.size y2 wq := hb0.trans (hw.mono hb0.size); clear gt hO hA hL hK; refine wpAnyH_done (by kernel_rfl) ?_ _; have H1 := qq (h1.stays hbk); clear h1; go_wp2
 go_returns
 exact ⟨A', c', rfl, H1.out, h2.more RW.out.size, RW.out.trans (hx.mono RW.out.size)⟩
theorem infoPair : (Tryz.prog.info? 29).map (·.size) = some 2 := by kernel_rfl
theorem be64_four (v : Nat) (h : v <= 4294967295) : be64 (putL v 4) 4 = v := by
 simp [be64, be, putL]; omega
theorem ckOpen1_any (k : Nat) (hk : k <= 4294967295) (Ak : Option Addr) (nk ck i_ : Nat) (Ai : Option Addr) (ci id : Nat) (hid : id <= 4294967295) (w : World) (hi : Blk w i_ 27 #[.slice Ai 4 ci]) (hb : Bytes w Ai 4 ci (putL id 4)) :
    Calls Tryz.prog 98 #[.agg #[.int .i64 k, .slice Ak nk ck], .pointer (some ⟨i_, 0, none⟩)] w fun e w' => e = .returned (.bool (decide (k = id))) ∧ Below w.heap.size w w' := by
 have BI := qq hi; have HI := qq hb; have hbe : ((k : Int) == (id : Int)) = decide (k = id) := by rw [Bool.eq_iff_iff]; simp [Int.natCast_inj]
 have wu : IntKind.u64.wrap (k : Int) = (k : Int) := IntWalk.u64_in _ (by omega); clear hi hb hk
 go_enter Tryz.func98, Tryz.ntmps98
 go_upto_region 1 with fail
 obtain ⟨y1, m_, ey1, em_⟩ : ∃ y1 m_, y1 = w.alloc (.cells #[.int .i64 k, .slice Ak nk ck] 126) ∧ m_ = w.heap.size := ⟨_, _, rfl, rfl⟩; rw [<- ey1, <- em_]; have hb1 : Below w.heap.size w y1 := by rw [ey1]; exact below_alloc1 _ _
 have BM := qq (show Blk y1 m_ 126 #[.int .i64 k, .slice Ak nk ck] by rw [ey1, em_]; exact blk_new1_0 _ _ _); have BI := qs BI hb1; have HI := qs HI hb1; have RW := qq hb1; clear hb1 ey1 em_; refine mono_start (fun _ => True) [pv (.pointer (some ⟨m_, 0, none⟩)), pv (.int .i64 k), pv (.int .u64 k), pv (.slice Ai 4 ci), pv (.int .u64 id), pv (.bool (decide (k = id))), pv (.bool (decide (k = id)))] (by kernel_rfl) (by kernel_rfl) (fun OPS AV AL K w0 hO hA hL hK hb0 hz => ?_); refine step_pv (d := (some 4)) (hO.out 0 _ rfl) rfl rfl (fun wq hw => ?_) ?_
 · clear hO hA hL hK
   go_simp; try first | with_reducible rfl | assumption | decide
 try simp only [qp, qn]
 refine step_pg (d := (some 5)) (hO.out 1 _ rfl) rfl rfl (fun wq hw gt => ?_) ?_
 · have hx : Below y1.heap.size y1 wq := hb0.trans (hw.mono hb0.size); have c1 := (BM.out.stays hx).cell 0; clear gt hO hA hL hK
   go_simp; try first | with_reducible rfl | assumption | decide
 try simp only [qp, qn]
 refine step_pv (d := (some 6)) (hO.out 2 _ rfl) rfl rfl (fun wq hw => ?_) ?_
 · clear hO hA hL hK
   go_simp; try first | with_reducible rfl | assumption | decide
 try simp only [qp, qn]
 refine step_pg (d := (some 7)) (hO.out 3 _ rfl) rfl rfl (fun wq hw gt => ?_) ?_
 · have hx : Below y1.heap.size y1 wq := hb0.trans (hw.mono hb0.size); have c1 := (BI.out.stays hx).cell 0; clear gt hO hA hL hK
   go_simp; try first | with_reducible rfl | assumption | decide
 try simp only [qp, qn]
 refine step_pk (d := (some 8)) (hO.out 4 _ rfl) rfl rfl (fun wq hw gt => ?_) ?_
 · have hx : Below y1.heap.size y1 wq := hb0.trans (hw.mono hb0.size); have h := get_any Ai 4 ci _ _ (HI.out.stays hx); rw [be64_four id hid] at h; refine ⟨_, _, ?_, h.mono (fun e q hq => ⟨hq.1, hq.2 ▸ Below.refl _ _⟩)⟩; clear gt hO hA hL hK
   go_simp
 try simp only [qp, qn]
 refine step_pv (d := (some 9)) (hO.out 5 _ rfl) rfl rfl (fun wq hw => ?_) ?_
 · clear hO hA hL hK
   go_simp; try first | with_reducible rfl | assumption | decide
 try simp only [qp, qn]
 refine step_pv (d := (some 3)) (hO.out 6 _ rfl) rfl rfl (fun wq hw => ?_) ?_
 · clear hO hA hL hK
   go_simp; try first | with_reducible rfl | assumption | decide
 try simp only [qp, qn]
 refine fun wq hw gt => hK.out _ _ ?_
 have hx : Below y1.heap.size y1 wq := hb0.trans (hw.mono hb0.size); clear gt hO hA hL hK; refine wpAnyH_done (by kernel_rfl) ?_ _; go_wp2; go_ret; exact ⟨by simp, RW.out.trans (hx.mono RW.out.size)⟩
theorem ckOpen_no (v : Value) (ks : List (Int × List UInt8)) (id : Nat) (hid : id <= 4294967295) (key nonce up dn : List UInt8) (hnl : nonce.length = 16) (hul : up.length = 32) (hdl : dn.length = 32) (Ac : Option Addr) (cc : Nat) (w : World) (h : RingV w v ks) (hg : RingG ks) (hc : Bytes w Ac 104 cc (cookB id key nonce 15 up dn)) (hno : ∀ i, i < ks.length -> fldT ks i ≠ (id : Int)) : Calls Tryz.prog 44 #[v, .slice Ac 104 cc] w fun e w' => (∃ u a b, e = .returned (.tuple #[a, u, b, .int .i64 5])) ∧ Below w.heap.size w w' := by
 have HV := qq (fun W hW => ckValid_any v ks W hW hg); have HR := qq h; have HG := qq hg; obtain ⟨A, n, c, rfl, hF⟩ := h; have hlen := hF.len; obtain ⟨gc, oc, rfl, _⟩ := hc.at_ (by decide : 0 < 104); have hcl := hc.le; have hcc := hc.cap; have HF := qq hF; have HC := qq hc; have hid : id <= 4294967295 := hid; clear hF hc hg
 go_enter Tryz.func44, Tryz.ntmps44
 go_upto_region 1 with fail
 obtain ⟨y1, x_, r_, ey1, ex_, er_⟩ : ∃ y1 x_ r_, y1 = (w.alloc (.cells #[.slice A n c] 25)).alloc (.cells #[.slice none 0 0, .slice none 0 0] 29) ∧ x_ = w.heap.size ∧ r_ = w.heap.size + 1 := ⟨_, _, _, rfl, rfl, rfl⟩; rw [<- ey1, <- er_, <- ex_]; have hb1 : Below w.heap.size w y1 := by rw [ey1]; exact below_alloc2 _ _ _
 have BX := qq (show Blk y1 x_ 25 #[.slice A n c] by rw [ey1, ex_]; exact blk_new2_0 _ _ _ _ _); have BR := qq (show Blk y1 r_ 29 #[.slice none 0 0, .slice none 0 0] by rw [ey1, er_]; exact blk_new2_1 _ _ _ _ _); have wr_ : w.heap.size <= r_ := by omega
 have RW := qq hb1; clear hb1 ey1 ex_ er_; have kc1 := BX.out.cell 0
 go_wp2_with fail
 refine (HV.out _ (HR.out.stays RW.out)).mono ?_; rintro e y2 ⟨rfl, hb⟩; have BX := qs BX hb; have BR := qs BR hb; have RW := qt RW hb; clear hb kc1
 go_wp2_with fail
 refine (ckCut_any gc oc 104 cc (by decide) hcl hcc _).mono ?_; rintro e y3 ⟨rfl, hb⟩; have BX := qs BX hb; have BR := qs BR hb; have RW := qt RW hb; clear hb
 go_upto_region 4 with fail
 obtain ⟨y4, i_, ey4, ei_⟩ : ∃ y4 i_, y4 = y3.alloc (.cells #[.slice (some ⟨gc, oc, none⟩) 4 cc] 27) ∧ i_ = y3.heap.size := ⟨_, _, rfl, rfl⟩; rw [<- ey4, <- ei_]; have hb : Below y3.heap.size y3 y4 := by rw [ey4]; exact below_alloc1 _ _
 have BI := qq (show Blk y4 i_ 27 #[.slice (some ⟨gc, oc, none⟩) 4 cc] by rw [ey4, ei_]; exact blk_new1_0 _ _ _); have BX := qs BX hb; have BR := qs BR hb; have RW := qt RW hb; clear hb ey4 ei_; have e4 : (cookB id key nonce 15 up dn).take 4 = putL id 4 := by unfold cookB ckB; rw [List.take_append_of_le_length (by rw [putL_length]; exact Nat.le_refl _), List.take_of_length_le (by rw [putL_length]; exact Nat.le_refl _)]
 have e20 : (cookB id key nonce 15 up dn).drop 4 = nonce ++ sealB key [putL id 4, nonce] (cookP 15 up dn) := by unfold cookB ckB; rw [List.drop_append_of_le_length (by rw [putL_length]; exact Nat.le_refl _), List.drop_of_length_le (by rw [putL_length]; exact Nat.le_refl _), List.nil_append]
 have H4 := qq (show Bytes y4 (some ⟨gc, oc, none⟩) 4 cc (putL id 4) from by rw [<- e4]; exact (HC.out.stays RW.out).cutTo 4 (by decide)); have kc1 := BX.out.cell 0
 go_wp2_with fail
 refine (idxMaster (.pointer (some ⟨i_, 0, none⟩)) (fun t => decide (t = (id : Int))) A n c ks _ (HF.out.stays RW.out) (fun W k A' n' c' l hbW _ hk => ?hop)).mono ?_
 case hop =>
  obtain ⟨i, hi, rfl⟩ := hk; have h2 := HG.out.2.2.1 i hi; obtain ⟨kn, hkn⟩ : ∃ kn : Nat, fldT ks i = kn := ⟨(fldT ks i).toNat, by omega⟩; rw [hkn] at h2 ⊢; refine (ckOpen1_any kn (by omega) A' n' c' i_ (some ⟨gc, oc, none⟩) cc id hid W (BI.out.stays hbW) (H4.out.stays hbW)).mono ?_; rintro e w' ⟨rfl, hb⟩; exact ⟨by simp [Int.natCast_inj], hb⟩
 rintro e y5 ⟨r, rfl, hr, hb⟩; have BR := qs BR hb; have RW := qt RW hb; clear hb kc1; have hr : r = -1 := by
  rcases hr with ⟨j, hj, hp, _, _⟩ | ⟨_, h⟩
  · exact absurd (of_decide_eq_true hp) (hno j hj)
  · exact h
 subst hr
 go_wp2_with (refine wpList_store_part rfl 29 _ _ rfl r_ 0 29 [] [.slice none 0 0, .slice none 0 0] [] [.slice none 0 0, .slice none 0 0] rfl rfl BR.out rfl rfl infoPair (by simp [Value.oneCell']) ?_; intro y8 D8 G8; rw [List.append_nil, List.nil_append] at D8)
 refine bodyPost_ret (results_tcll rfl _ _ r_ _ _ _ _ _ _ rfl rfl rfl rfl D8 Tryz.underlying29 rfl infoPair) rfl ⟨⟨_, _, _, rfl⟩, RW.out.grown G8 RW.out.size (fun k hk => by cases hk; exact wr_)⟩
theorem ckOpen_any (v : Value) (ks : List (Int × List UInt8)) (id : Nat) (hid : id <= 4294967295) (key nonce up dn : List UInt8) (hnl : nonce.length = 16) (hul : up.length = 32) (hdl : dn.length = 32) (Ac : Option Addr) (cc : Nat) (w : World) (h : RingV w v ks) (hg : RingG ks) (hc : Bytes w Ac 104 cc (cookB id key nonce 15 up dn)) (rest : List (Int × List UInt8)) (hks : ks = ((id : Int), key) :: rest) : Calls Tryz.prog 44 #[v, .slice Ac 104 cc] w fun e w' => ∃ Au cu Ad cd, e = .returned (.tuple #[.int .i64 15, .agg #[.slice Au 32 cu, .slice Ad 32 cd], .int .i64 0, .int .i64 0]) ∧ Bytes w' Au 32 cu up ∧ Bytes w' Ad 32 cd dn ∧ Below w.heap.size w w' := by
 have HV := qq (fun W hW => ckValid_any v ks W hW hg); have HR := qq h; have HG := qq hg; obtain ⟨A, n, c, rfl, hF⟩ := h; have hlen := hF.len; obtain ⟨gc, oc, rfl, _⟩ := hc.at_ (by decide : 0 < 104); have hcl := hc.le; have hcc := hc.cap; have HF := qq hF; have HC := qq hc; have hid : id <= 4294967295 := hid; clear hF hc hg
 go_enter Tryz.func44, Tryz.ntmps44
 go_upto_region 1 with fail
 obtain ⟨y1, x_, r_, ey1, ex_, er_⟩ : ∃ y1 x_ r_, y1 = (w.alloc (.cells #[.slice A n c] 25)).alloc (.cells #[.slice none 0 0, .slice none 0 0] 29) ∧ x_ = w.heap.size ∧ r_ = w.heap.size + 1 := ⟨_, _, _, rfl, rfl, rfl⟩; rw [<- ey1, <- er_, <- ex_]; have hb1 : Below w.heap.size w y1 := by rw [ey1]; exact below_alloc2 _ _ _
 have BX := qq (show Blk y1 x_ 25 #[.slice A n c] by rw [ey1, ex_]; exact blk_new2_0 _ _ _ _ _); have BR := qq (show Blk y1 r_ 29 #[.slice none 0 0, .slice none 0 0] by rw [ey1, er_]; exact blk_new2_1 _ _ _ _ _); have wr_ : w.heap.size <= r_ := by omega
 have RW := qq hb1; clear hb1 ey1 ex_ er_; have kc1 := BX.out.cell 0
 go_wp2_with fail
 refine (HV.out _ (HR.out.stays RW.out)).mono ?_; rintro e y2 ⟨rfl, hb⟩; have BX := qs BX hb; have BR := qs BR hb; have RW := qt RW hb; clear hb kc1
 go_wp2_with fail
 refine (ckCut_any gc oc 104 cc (by decide) hcl hcc _).mono ?_; rintro e y3 ⟨rfl, hb⟩; have BX := qs BX hb; have BR := qs BR hb; have RW := qt RW hb; clear hb
 go_upto_region 4 with fail
 obtain ⟨y4, i_, ey4, ei_⟩ : ∃ y4 i_, y4 = y3.alloc (.cells #[.slice (some ⟨gc, oc, none⟩) 4 cc] 27) ∧ i_ = y3.heap.size := ⟨_, _, rfl, rfl⟩; rw [<- ey4, <- ei_]; have hb : Below y3.heap.size y3 y4 := by rw [ey4]; exact below_alloc1 _ _
 have BI := qq (show Blk y4 i_ 27 #[.slice (some ⟨gc, oc, none⟩) 4 cc] by rw [ey4, ei_]; exact blk_new1_0 _ _ _); have BX := qs BX hb; have BR := qs BR hb; have RW := qt RW hb; clear hb ey4 ei_; have e4 : (cookB id key nonce 15 up dn).take 4 = putL id 4 := by unfold cookB ckB; rw [List.take_append_of_le_length (by rw [putL_length]; exact Nat.le_refl _), List.take_of_length_le (by rw [putL_length]; exact Nat.le_refl _)]
 have e20 : (cookB id key nonce 15 up dn).drop 4 = nonce ++ sealB key [putL id 4, nonce] (cookP 15 up dn) := by unfold cookB ckB; rw [List.drop_append_of_le_length (by rw [putL_length]; exact Nat.le_refl _), List.drop_of_length_le (by rw [putL_length]; exact Nat.le_refl _), List.nil_append]
 have H4 := qq (show Bytes y4 (some ⟨gc, oc, none⟩) 4 cc (putL id 4) from by rw [<- e4]; exact (HC.out.stays RW.out).cutTo 4 (by decide)); have kc1 := BX.out.cell 0
 go_wp2_with fail
 refine (idxMaster (.pointer (some ⟨i_, 0, none⟩)) (fun t => decide (t = (id : Int))) A n c ks _ (HF.out.stays RW.out) (fun W k A' n' c' l hbW _ hk => ?hop)).mono ?_
 case hop =>
  obtain ⟨i, hi, rfl⟩ := hk; have h2 := HG.out.2.2.1 i hi; obtain ⟨kn, hkn⟩ : ∃ kn : Nat, fldT ks i = kn := ⟨(fldT ks i).toNat, by omega⟩; rw [hkn] at h2 ⊢; refine (ckOpen1_any kn (by omega) A' n' c' i_ (some ⟨gc, oc, none⟩) cc id hid W (BI.out.stays hbW) (H4.out.stays hbW)).mono ?_; rintro e w' ⟨rfl, hb⟩; exact ⟨by simp [Int.natCast_inj], hb⟩
 rintro e y5 ⟨r, rfl, hr, hb⟩; have BX := qs BX hb; have BI := qs BI hb; have BR := qs BR hb; have H4 := qs H4 hb; have RW := qt RW hb; clear hb kc1; have ht0 : fldT ks 0 = (id : Int) := by rw [hks]; rfl
 have hd0 : fldD ks 0 = key := by rw [hks]; rfl
 have hk0 : 0 < ks.length := by rw [hks]; simp
 have hr1 : r = ((0 : Nat) : Int) := by
  rcases hr with ⟨j, hj, hp, hbf, h⟩ | ⟨h, _⟩
  · cases j with
    | zero => exact h
    | succ j => have := hbf 0 (by omega); rw [ht0] at this; simp at this
  · have := h 0 hk0; rw [ht0] at this; simp at this
 have hr0 : r = 0 := hr1; clear hr1 hr; subst hr0; have hn0 : 0 < n := by omega
 obtain ⟨g, o, Ak, nk, ck, rfl, _, hc2, hK⟩ := (HF.out.stays RW.out).at_ hn0; rw [hd0] at hK; have hg0 := HG.out.2.2.1 0 hk0; rw [hd0] at hg0; have hnk : nk = 32 := by have := hK.len; omega
 subst hnk; have hc2 : y5.cell? ⟨g, o + 1, none⟩ = some (.slice Ak 32 ck) := by simpa using hc2
 have hc2 := qq hc2; have HK := qq hK; have HB20 := qq (show Bytes y5 (some ⟨gc, oc + 4, none⟩) 100 (cc - 4) (nonce ++ sealB key [putL id 4, nonce] (cookP 15 up dn)) from by
  have h := (HC.out.stays RW.out).cutFrom 4 (by decide) (d := 100) (k := cc - 4) rfl rfl; unfold cutA at h; rw [if_neg (by omega), Option.map_some, add_off, e20] at h; exact h)
 have H16 := qq (show Bytes y5 (some ⟨gc, oc + 4, none⟩) 16 (cc - 4) nonce from by
  have h := HB20.out.cutTo 16 (by decide); rw [List.take_append_of_le_length (by omega), List.take_of_length_le (by omega)] at h; exact h)
 have H84 := qq (show Bytes y5 (some ⟨gc, oc + 20, none⟩) 84 (cc - 20) (sealB key [putL id 4, nonce] (cookP 15 up dn)) from by
  have h := HB20.out.cutFrom 16 (by decide) (d := 84) (k := cc - 20) rfl (by omega); unfold cutA at h; rw [if_neg (by omega), Option.map_some, add_off, List.drop_append_of_le_length (by omega), List.drop_of_length_le (by omega), List.nil_append] at h; exact h)
 have HN0 := qq hn0; clear hK hg0 hks ht0 hd0 hk0 hlen HB20 e4 e20 hcl hcc hid hn0
 go_upto_region 7 with fail
 have nI : (0 : Int) < (n : Int) := by have := HN0.out; omega
 have nI2 : ¬ n = 0 := by have := HN0.out; omega
 refine mono_start (fun _ => True) [pv (.pointer (some ⟨x_, 0, none⟩)), pv (.slice (some ⟨g, o, none⟩) n c), pv (.int .i64 0), pv (.pointer (some ⟨g, o, none⟩)), pv (.pointer (some ⟨g, o + 1, none⟩)), pv (.slice Ak 32 ck), pv (.slice (some ⟨gc, oc, none⟩) 4 cc), pv (.slice (some ⟨gc, oc + 4, none⟩) 16 (cc - 4)), mv (fun v u => ∃ A', v = .slice A' 2 2 ∧ Lists u A' 2 2 [putL id 4, nonce]), pv (.slice (some ⟨gc, oc + 20, none⟩) 84 (cc - 20)), mv (fun v u => ∃ A' c', v = .tuple #[.slice A' 68 c', .int .i64 0] ∧ Bytes u A' 68 c' (cookP 15 up dn)), mv (fun v u => ∃ A' c', v = .tuple #[.slice A' 68 c', .int .i64 0] ∧ Bytes u A' 68 c' (cookP 15 up dn)), mv (fun v u => ∃ A' c', v = .slice A' 68 c' ∧ Bytes u A' 68 c' (cookP 15 up dn)), pv (.int .i64 0), mv (fun v u => ∃ A' c', v = .slice A' 68 c' ∧ Bytes u A' 68 c' (cookP 15 up dn)), pv (.int .i64 0)] (by kernel_rfl) (by kernel_rfl) (fun OPS AV AL K w0 hO hA hL hK hb0 hz => ?_); refine step_pv (d := (some 36)) (hO.out 0 _ rfl) rfl rfl (fun wq hw => ?_) ?_
 · clear hO hA hL hK
   go_simp; try first | with_reducible rfl | assumption | decide
 try simp only [qp, qn]
 refine step_pg (d := (some 37)) (hO.out 1 _ rfl) rfl rfl (fun wq hw gt => ?_) ?_
 · have hx : Below y5.heap.size y5 wq := hb0.trans (hw.mono hb0.size); have c1 := (BX.out.stays hx).cell 0; clear gt hO hA hL hK
   go_simp; try first | with_reducible rfl | assumption | decide
 try simp only [qp, qn]
 refine step_pv (d := (some 38)) (hO.out 2 _ rfl) rfl rfl (fun wq hw => ?_) ?_
 · clear hO hA hL hK
   go_simp; try first | with_reducible rfl | assumption | decide
 try simp only [qp, qn]
 refine step_pv (d := (some 39)) (hO.out 3 _ rfl) rfl rfl (fun wq hw => ?_) ?_
 · clear hO hA hL hK
   go_simp; try first | with_reducible rfl | assumption | decide
 try simp only [qp, qn]
 refine step_pv (d := (some 40)) (hO.out 4 _ rfl) rfl rfl (fun wq hw => ?_) ?_
 · clear hO hA hL hK
   go_simp; try first | with_reducible rfl | assumption | decide
 try simp only [qp, qn]
 refine step_pg (d := (some 41)) (hO.out 5 _ rfl) rfl rfl (fun wq hw gt => ?_) ?_
 · have hx : Below y5.heap.size y5 wq := hb0.trans (hw.mono hb0.size); have c1 := cell_stays hx hc2.out; clear gt hO hA hL hK
   go_simp; try first | with_reducible rfl | assumption | decide
 try simp only [qp, qn]
 refine step_pg (d := (some 42)) (hO.out 6 _ rfl) rfl rfl (fun wq hw gt => ?_) ?_
 · have hx : Below y5.heap.size y5 wq := hb0.trans (hw.mono hb0.size); have c1 := (BI.out.stays hx).cell 0; clear gt hO hA hL hK
   go_simp; try first | with_reducible rfl | assumption | decide
 try simp only [qp, qn]
 refine step_pv (d := (some 43)) (hO.out 7 _ rfl) rfl rfl (fun wq hw => ?_) ?_
 · clear hO hA hL hK
   go_simp; try first | with_reducible rfl | assumption | decide
 try simp only [qp, qn]
 refine step_mv (d := (some 44)) (hO.out 8 _ rfl) rfl rfl (fun wq hw gt => ?_) (fun v_8 x_8 => ?_)
 · have hx : Below y5.heap.size y5 wq := hb0.trans (hw.mono hb0.size); refine ⟨_, _, ?_, ⟨_, rfl, lists_made2 (E := 27) (H4.out.stays hx) (H16.out.stays hx)⟩, (Below.refl _ _).alloc (Nat.le_refl _) _⟩; clear gt hO hA hL hK
   go_simp; try first | with_reducible rfl | rfl
 try simp only [qp, qn]
 refine step_pv (d := (some 45)) (hO.out 9 _ rfl) rfl rfl (fun wq hw => ?_) ?_
 · clear hO hA hL hK
   go_simp; try first | with_reducible rfl | assumption | decide
 try simp only [qp, qn]
 refine step_mc (d := (some 46)) (hO.out 10 _ rfl) rfl rfl (fun wq hw gt => ?_) (fun v_10 x_10 => ?_)
 · have hx : Below y5.heap.size y5 wq := hb0.trans (hw.mono hb0.size); obtain ⟨⟨A', rfl, hLs⟩, hbk⟩ := (gt 8 (hA.out 10 8 (by kernel_rfl))); refine ⟨_, _, ?_, (open_any key Ak ck A' 2 2 [putL id 4, nonce] _ 68 _ (cookP 15 up dn) _ (HK.out.stays hx) (hLs.stays hbk) (H84.out.stays hx) (by decide) (by decide) (listAt2 (by rw [putL_length]; decide) (by rw [hnl]; decide)) (by decide)).mono (fun e q h => ?_)⟩
   · clear gt hO hA hL hK
     go_simp
   obtain ⟨A2, c2, rfl, h1, _, h2⟩ := h; exact ⟨_, rfl, ⟨A2, c2, rfl, h1⟩, h2⟩
 try simp only [qp, qn]
 refine step_mv (d := (some 35)) (hO.out 11 _ rfl) rfl rfl (fun wq hw gt => ?_) (fun v_11 x_11 => ?_)
 · have hx : Below y5.heap.size y5 wq := hb0.trans (hw.mono hb0.size); obtain ⟨⟨A', c', rfl, hB'⟩, hbk⟩ := (gt 10 (hA.out 11 10 (by kernel_rfl))); refine ⟨_, _, ?_, ⟨A', c', rfl, hB'.stays hbk⟩, Below.refl _ _⟩; clear gt hO hA hL hK
   go_simp; try first | with_reducible rfl | rfl
 try simp only [qp, qn]
 refine step_mv (d := (some 47)) (hO.out 12 _ rfl) rfl rfl (fun wq hw gt => ?_) (fun v_12 x_12 => ?_)
 · have hx : Below y5.heap.size y5 wq := hb0.trans (hw.mono hb0.size); obtain ⟨⟨A', c', rfl, hB'⟩, hbk⟩ := (gt 11 (hA.out 12 11 (by kernel_rfl))); refine ⟨_, _, ?_, ⟨A', c', rfl, hB'.stays hbk⟩, Below.refl _ _⟩; clear gt hO hA hL hK
   go_simp; try first | with_reducible rfl | rfl
 try simp only [qp, qn]
 refine step_pg (d := (some 48)) (hO.out 13 _ rfl) rfl rfl (fun wq hw gt => ?_) ?_
 · have hx : Below y5.heap.size y5 wq := hb0.trans (hw.mono hb0.size); obtain ⟨⟨A', c', rfl, hB'⟩, hbk⟩ := (gt 11 (hA.out 13 11 (by kernel_rfl))); clear gt hO hA hL hK
   go_simp; try first | with_reducible rfl | assumption | decide
 try simp only [qp, qn]
 refine step_mv (d := (some 11)) (hO.out 14 _ rfl) rfl rfl (fun wq hw gt => ?_) (fun v_14 x_14 => ?_)
 · have hx : Below y5.heap.size y5 wq := hb0.trans (hw.mono hb0.size); obtain ⟨⟨A', c', rfl, hB'⟩, hbk⟩ := (gt 12 (hA.out 14 12 (by kernel_rfl))); refine ⟨_, _, ?_, ⟨A', c', rfl, hB'.stays hbk⟩, Below.refl _ _⟩; clear gt hO hA hL hK
   go_simp; try first | with_reducible rfl | rfl
 try simp only [qp, qn]
 refine step_pv (d := (some 7)) (hO.out 15 _ rfl) rfl rfl (fun wq hw => ?_) ?_
 · clear hO hA hL hK
   go_simp; try first | with_reducible rfl | assumption | decide
 try simp only [qp, qn]
 refine fun wq hw gt => hK.out _ _ ?_
 obtain ⟨⟨Ap, cp, rfl, h1⟩, hbk⟩ := (gt 14 (hL.out 14 (by kernel_rfl))); have hx : Below y5.heap.size y5 wq := hb0.trans (hw.mono hb0.size); have HP := qq (h1.stays hbk); clear gt hO hA hL hK h1 hbk hb0 hz hw; refine wpAnyH_done (by kernel_rfl) ?_ _; have BR := qs BR hx; have RW := qt RW hx; clear hx; obtain ⟨gp, op, rfl, _⟩ := HP.out.at_ (by decide : 0 < 68); have hcp := HP.out.le; have hcp2 := HP.out.cap; have p1 : ¬ cp = 2 := by omega
 have p2 : ¬ cp = 4 := by omega
 have p3 : ¬ cp < 4 := by omega
 have p4 : ¬ cp < 2 := by omega
 have p7 : ¬ cp = 0 := by omega
 have HG2 := qq (show Bytes wq (some ⟨gp, op, none⟩) 2 cp (putL 15 2) from HP.out.cutTo 2 (by decide)); have HZ2 := qq (show Bytes wq (some ⟨gp, op + 2, none⟩) 2 (cp - 2) [0, 0] from by
  have h := (HP.out.cutFrom 2 (by decide) (d := 66) (k := cp - 2) rfl rfl).cutTo 2 (by decide); unfold cutA at h; rw [if_neg (by omega), Option.map_some, add_off] at h; exact h)
 have HK4 := qq (show Bytes wq (some ⟨gp, op + 4, none⟩) 64 (cp - 4) (up ++ dn) from by
  have h := HP.out.cutFrom 4 (by decide) (d := 64) (k := cp - 4) rfl rfl; unfold cutA at h; rw [if_neg (by omega), Option.map_some, add_off] at h; exact h)
 clear hcp hcp2 nI nI2
 go_wp2_with fail
 refine (get_any _ 2 _ _ _ HZ2.out).mono ?_; rintro e y6 ⟨rfl, rfl⟩; rw [show be64 [0, 0] 2 = 0 from rfl]
 go_wp2_with fail
 refine (cut_ok (up ++ dn) _ 64 _ 32 _ HK4.out (by decide) (by decide)).mono ?_; rintro e y6 ⟨A5, c5, A6, c6, rfl, h5, h6, hb⟩; rw [List.take_append_of_le_length (by omega), List.take_of_length_le (by omega)] at h5; rw [List.drop_append_of_le_length (by omega), List.drop_of_length_le (by omega), List.nil_append] at h6; have h6 : Bytes y6 A6 32 c6 dn := h6; have BR := qs BR hb; have HG2 := qs HG2 hb; have RW := qt RW hb; have D7 := (BR.out.put 0 (.slice A5 32 c5)).put 1 (.slice A6 32 c6); have G7 : y6.grownBy ((y6.setCell ⟨r_, 0, none⟩ (.slice A5 32 c5)).setCell ⟨r_, 1, none⟩ (.slice A6 32 c6)) (some r_) := grown_put (grown_put (World.grownBy.refl _ _) 0 _) 1 _; have H5 := qq (h5.kept G7 (off_block h5 BR.out rfl)); have H6 := qq (h6.kept G7 (off_block h6 BR.out rfl)); have HG2 := qq (HG2.out.kept G7 (off_block HG2.out BR.out rfl)); have RW := qq (RW.out.grown G7 RW.out.size (fun k hk => by cases hk; exact wr_)); have c4 := BR.out.cell; have f4 := BR.out.frozen; clear hb h5 h6
 go_upto_region 12 with fail
 obtain ⟨y7, hy7⟩ : ∃ y7, (y6.setCell ⟨r_, 0, none⟩ (.slice A5 32 c5)).setCell ⟨r_, 1, none⟩ (.slice A6 32 c6) = y7 := ⟨_, rfl⟩; rw [hy7] at D7 H5 H6 HG2 RW ⊢; have D7 := qq (show Blk y7 r_ 29 #[.slice A5 32 c5, .slice A6 32 c6] from D7); clear hy7 c4 f4 G7; have p6 : ¬ (cp : Int) < 2 := by have := HG2.out.le; omega
 have hd0 : Below y7.heap.size y7 y7.drew := (Below.refl _ _).drew; refine take_start (S := fun w' => Blk w' r_ 29 #[.slice A5 32 c5, .slice A6 32 c6] ∧ Bytes w' (some ⟨gp, op, none⟩) 2 cp (putL 15 2)) (by kernel_rfl) ?hPQ1 ⟨D7.out.stays hd0, HG2.out.stays hd0⟩ (fun hPQ hHeld => ?rest1)
 case hPQ1 => (repeat (with_reducible first | refine PQ.then ?_ | refine PQ.block ?_)); exact fun _ _ d _ _ h => by cases d <;> exact h
 refine take_val (i := 0) (d := (some 68)) (v := .slice (some ⟨gp, op, none⟩) 68 cp) rfl rfl (by kernel_rfl) (by kernel_rfl) (by kernel_rfl) hPQ (by rfl) (fun wq hSw => ?_) hHeld ?_
 · clear hPQ; go_simp; try first | with_reducible rfl | assumption | decide
 try simp only [qp, qn]
 refine take_val (i := 1) (d := (some 69)) (v := .slice (some ⟨gp, op, none⟩) 2 cp) rfl rfl (by kernel_rfl) (by kernel_rfl) (by kernel_rfl) hPQ (by rfl) (fun wq hSw => ?_) hHeld ?_
 · clear hPQ; go_simp; try first | with_reducible rfl | assumption | decide
 try simp only [qp, qn]
 refine take_call (i := 2) (d := (some 70)) (v := .int .u64 15) rfl rfl (by kernel_rfl) (by kernel_rfl) (by kernel_rfl) hPQ (by rfl) (fun wq hSw => ((get_any _ 2 _ _ _ hSw.2).mono (fun e q hq => ⟨hq.1, hq.2.symm⟩))) (fun wq hSw => ?_) hHeld ?_
 · clear hPQ; go_simp
 try simp only [qp, qn]
 refine take_val (i := 3) (d := (some 71)) (v := .int .i64 15) rfl rfl (by kernel_rfl) (by kernel_rfl) (by kernel_rfl) hPQ (by rfl) (fun wq hSw => ?_) hHeld ?_
 · clear hPQ; go_simp; try first | with_reducible rfl | assumption | decide
 try simp only [qp, qn]
 refine take_val (i := 4) (d := (some 72)) (v := .agg #[.slice A5 32 c5, .slice A6 32 c6]) rfl rfl (by kernel_rfl) (by kernel_rfl) (by kernel_rfl) hPQ (by rfl) (fun wq hSw => ?_) hHeld ?_
 · exact exec_load_part 29 _ rfl r_ 0 29 [] [.slice A5 32 c5, .slice A6 32 c6] [] _ rfl hSw.1 rfl Tryz.underlying29 rfl infoPair
 try simp only [qp, qn]
 refine take_val (i := 5) (d := (some 73)) (v := .int .i64 0) rfl rfl (by kernel_rfl) (by kernel_rfl) (by kernel_rfl) hPQ (by rfl) (fun wq hSw => ?_) hHeld ?_
 · clear hPQ; go_simp; try first | with_reducible rfl | assumption | decide
 try simp only [qp, qn]
 refine take_do (j := 6) (d := (some 4)) (v := .int .i64 15) (w2 := y7.drew) rfl rfl (by kernel_rfl) rfl (Or.inl (by clear hPQ; go_simp; try with_reducible rfl)) hHeld ?_; try simp only [qp, qn]
 refine take_store_part2 (j := 7) rfl rfl (by kernel_rfl) rfl 29 _ _ rfl r_ 0 29 [] [.slice A5 32 c5, .slice A6 32 c6] [] [.slice A5 32 c5, .slice A6 32 c6] rfl rfl hHeld.1 rfl rfl infoPair (by simp [Value.oneCell']) (fun w2 hD hg => ⟨by rw [List.append_nil, List.nil_append] at hD; exact hD, hHeld.2.kept hg (off_block hHeld.2 hHeld.1 rfl)⟩) (fun w8 D8 G8 => ?_); rw [List.append_nil, List.nil_append] at D8; refine take_do (j := 8) (d := (some 6)) (v := .int .i64 0) (w2 := w8) rfl rfl (by kernel_rfl) rfl (Or.inl (by clear hPQ; go_simp; try with_reducible rfl)) ⟨D8, hHeld.2.kept G8 (off_block hHeld.2 hHeld.1 rfl)⟩ ?_; try simp only [qp, qn]
 refine take_do (j := 9) (d := (some 7)) (v := .int .i64 0) (w2 := w8) rfl rfl (by kernel_rfl) rfl (Or.inl (by clear hPQ; go_simp; try with_reducible rfl)) ⟨D8, hHeld.2.kept G8 (off_block hHeld.2 hHeld.1 rfl)⟩ ?_; try simp only [qp, qn]
 refine wpAnyH_done (by kernel_rfl) ?_ _
 go_wp2_with fail
 have k5 := H5.out.stays hd0; have k6 := H6.out.stays hd0; refine bodyPost_ret (results_tcll rfl _ _ r_ _ _ _ _ _ _ rfl rfl rfl rfl D8 Tryz.underlying29 rfl infoPair) rfl ⟨A5, c5, A6, c6, rfl, k5.kept G8 (off_block k5 hHeld.1 rfl), k6.kept G8 (off_block k6 hHeld.1 rfl), ?_⟩; have r8 := RW.out.trans (hd0.mono RW.out.size); exact r8.grown G8 r8.size (fun k hk => by cases hk; exact wr_)
theorem infoPk : (Tryz.prog.info? 51).map (·.size) = some 16 := by kernel_rfl
theorem infoHd : (Tryz.prog.info? 48).map (·.size) = some 13 := by kernel_rfl
theorem infoGd : (Tryz.prog.info? 118).map (·.size) = some 2 := by kernel_rfl
theorem padded_any (n : Nat) (hn : n <= 1000000) (w : World) : Calls Tryz.prog 107 #[.int .i64 n] w fun e w' => e = .returned (.int .i64 (((n + 3) / 4 * 4 : Nat) : Int)) ∧ w = w' := by
 have h : (((n + 3) / 4 * 4 : Nat) : Int) = ((n : Int) + 3) / 4 * 4 := by omega
 have H := qq h; clear h
 go_enter Tryz.func107, Tryz.ntmps107
 go_wp2; go_ret; exact ⟨by rw [H.out]; exact ret_int (by omega), rfl⟩
theorem nonced_any (w : World) : Calls Tryz.prog 91 #[.int .i64 16] w fun e w' => e = .returned (.bool true) ∧ w = w' := by
 go_enter Tryz.func91, Tryz.ntmps91
 go_wp2; go_ret; exact ⟨rfl, rfl⟩
structure HdT where
 (l v m s : Nat) (p q : Int) (a b c d e f g : Nat)
def pkA (h : HdT) (P S G : Value) : Value := .agg #[.int .i64 h.l, .int .i64 h.v, .int .i64 h.m, .int .i64 h.s, .int .i64 h.p, .int .i64 h.q, .int .u32 h.a, .int .u32 h.b, .int .u32 h.c, .int .u64 h.d, .int .u64 h.e, .int .u64 h.f, .int .u64 h.g, P, S, G]
def HdT.bytes (h : HdT) : List UInt8 := hdBytes h.l h.v h.m h.s h.p h.q h.a h.b h.c h.d h.e h.f h.g
theorem HdT.len (h : HdT) : h.bytes.length = 48 := hdBytes_len _ _ _ _ _ _ _ _ _ _ _ _ _
def HdT.ok (h : HdT) : Prop := HdOk h.l h.v h.m h.s h.p h.q ∧ h.a < 4294967296 ∧ h.b < 4294967296 ∧ h.c < 4294967296 ∧ h.d < 18446744073709551616 ∧ h.e < 18446744073709551616 ∧ h.f < 18446744073709551616 ∧ h.g < 18446744073709551616
theorem hdEnc_any (h : HdT) (hk : h.ok) (w : World) : Calls Tryz.prog 129 #[.agg #[.int .i64 h.l, .int .i64 h.v, .int .i64 h.m, .int .i64 h.s, .int .i64 h.p, .int .i64 h.q, .int .u32 h.a, .int .u32 h.b, .int .u32 h.c, .int .u64 h.d, .int .u64 h.e, .int .u64 h.f, .int .u64 h.g]] w fun e w' => ∃ A c, e = .returned (.tuple #[.slice A 48 c, .int .i64 0]) ∧ Bytes w' A 48 c h.bytes ∧ Below w.heap.size w w' :=
  encode_ok h.l h.v h.m h.s h.p h.q h.a h.b h.c h.d h.e h.f h.g w hk.1 hk.2.1 hk.2.2.1 hk.2.2.2.1 hk.2.2.2.2.1 hk.2.2.2.2.2.1 hk.2.2.2.2.2.2.1 hk.2.2.2.2.2.2.2
theorem hdDec_any (h : HdT) (hk : h.ok) (rest : List UInt8) (A : Option Addr) (n c : Nat) (w : World) (hv : Bytes w A n c (h.bytes ++ rest)) (hn : n <= 1280) (k : Nat) (hr : rest.length = k) : Calls Tryz.prog 95 #[.slice A n c] w fun e w' => ∃ A' c', e = .returned (.tuple #[.agg #[.int .i64 h.l, .int .i64 h.v, .int .i64 h.m, .int .i64 h.s, .int .i64 h.p, .int .i64 h.q, .int .u32 h.a, .int .u32 h.b, .int .u32 h.c, .int .u64 h.d, .int .u64 h.e, .int .u64 h.f, .int .u64 h.g], .slice A' k c', .int .i64 0]) ∧ Bytes w' A' k c' rest ∧ Below w.heap.size w w' :=
  dec_join h.l h.v h.m h.s h.p h.q h.a h.b h.c h.d h.e h.f h.g rest hk.1 hk.2.1 hk.2.2.1 hk.2.2.2.1 hk.2.2.2.2.1 hk.2.2.2.2.2.1 hk.2.2.2.2.2.2.1 hk.2.2.2.2.2.2.2 A n c w hv hn k hr
theorem pOpen_any (h : HdT) (hk : h.ok) (A : Option Addr) (n c : Nat) (fs : List (Int × List UInt8)) (As : Option Addr) (ns cs : Nat) (g : Bool) (w : World) (hv : FldL w A n c fs) (h1 : errX fs = 0) (h2 : n <= 24) (h3 : totX fs <= 1232) : Calls Tryz.prog 92 #[pkA h (.slice A n c) (.slice As ns cs) (.bool g)] w fun e w' => ∃ A' c', e = .returned (.tuple #[.slice A' (48 + totX fs) c', .int .i64 0]) ∧ Bytes w' A' (48 + totX fs) c' (h.bytes ++ fs.flatMap encX) ∧ Below w.heap.size w w' := by
 have HE := qq (hdEnc_any h hk); have HHL := qq h.len; obtain ⟨hb_, ehb⟩ : ∃ hb_, h.bytes = hb_ := ⟨_, rfl⟩; rw [ehb] at HE HHL; rw [ehb]; have HF := qq hv; have HX : Hid (encodeX fs = (fs.flatMap encX, 0)) := encodeX_ok h1 (by have := hv.len; omega) h3; have HD : Hid (∀ k, (fldD fs k).length <= 100000) := fun k => by
  by_cases hk' : k < fs.length
  · have := (sizeX_ok (errX_ok fs h1 (fs[k]) (List.getElem_mem hk'))).2.2.1; have h9 := (exSz_ge (fs[k]).2.length).1; have e : fldD fs k = (fs[k]).2 := by simp [fldD, List.getD, hk']
    rw [e]; omega
  · have e : fldD fs k = [] := by unfold fldD; rw [List.getD, List.getElem?_eq_none (by omega)]; rfl
    rw [e]; exact Nat.zero_le _
 have HT : Hid ((fs.flatMap encX).length = totX fs) := totX_flat fs; obtain ⟨tx, etx⟩ : ∃ tx, totX fs = tx := ⟨_, rfl⟩; rw [etx] at HT h3 ⊢; clear hv h1 h2 etx hk ehb; obtain ⟨x0, x1, x2, x3, x4, x5, x6, x7, x8, x9, x10, x11, x12⟩ := h; simp only [pkA]
 go_enter Tryz.func92, Tryz.ntmps92
 go_upto_region 1 with fail
 obtain ⟨y1, x_, ey1, ex_⟩ : ∃ y1 x_, y1 = w.alloc (.cells #[.int .i64 x0, .int .i64 x1, .int .i64 x2, .int .i64 x3, .int .i64 x4, .int .i64 x5, .int .u32 x6, .int .u32 x7, .int .u32 x8, .int .u64 x9, .int .u64 x10, .int .u64 x11, .int .u64 x12, .slice A n c, .slice As ns cs, .bool g] 51) ∧ x_ = w.heap.size := ⟨_, _, rfl, rfl⟩; rw [<- ey1, <- ex_]; have hb1 : Below w.heap.size w y1 := by rw [ey1]; exact below_alloc1 _ _
 have BX := qq (show Blk y1 x_ 51 #[.int .i64 x0, .int .i64 x1, .int .i64 x2, .int .i64 x3, .int .i64 x4, .int .i64 x5, .int .u32 x6, .int .u32 x7, .int .u32 x8, .int .u64 x9, .int .u64 x10, .int .u64 x11, .int .u64 x12, .slice A n c, .slice As ns cs, .bool g] by rw [ey1, ex_]; exact Blk.new _ _ _); have HF := qs HF hb1; have RW := qq hb1; clear hb1 ey1 ex_
 go_wp2_with (refine wpList_load_part rfl 48 _ rfl x_ 0 51 [] [.int .i64 x0, .int .i64 x1, .int .i64 x2, .int .i64 x3, .int .i64 x4, .int .i64 x5, .int .u32 x6, .int .u32 x7, .int .u32 x8, .int .u64 x9, .int .u64 x10, .int .u64 x11, .int .u64 x12] [.slice A n c, .slice As ns cs, .bool g] _ rfl BX.out rfl Tryz.underlying48 rfl infoHd ?_)
 refine (HE.out _).mono ?_; rintro e y2 ⟨A1, c1, rfl, hB1, hx⟩; have HB1 := qq hB1; have BX := qs BX hx; have HF := qs HF hx; have RW := qt RW hx; clear hx hB1; have kc1 := BX.out.cell 13
 go_wp2_with fail
 refine (encode_any A n c fs _ HF.out HD.out).mono ?_; rw [HX.out]; rintro e y3 ⟨A2, n2, c2, rfl, hB2, hx⟩; have hn2 : n2 = tx := by have := hB2.len; rw [HT.out] at this; exact this.symm
 subst hn2; have HB2 := qq hB2; have HB1 := qs HB1 hx; have RW := qt RW hx; clear hx hB2 kc1 BX HF
 go_wp2_with fail
 refine (join_any _ _ _ [hb_, fs.flatMap encX] _ (lists_made2 HB1.out HB2.out) (48 + n2) (by simp [HHL.out, HT.out]) (by omega)).mono ?_; rintro e y4 ⟨A3, c3, rfl, ho, hb⟩; have hx : Below y3.heap.size y3 y4 := ((Below.refl _ _).alloc (Nat.le_refl _) _).trans (hb.mono (by simp)); have h2 := own_rd ho; rw [show [hb_, fs.flatMap encX].flatten = hb_ ++ fs.flatMap encX by simp] at h2; have HR := qq (show Bytes y4 A3 (48 + n2) c3 (hb_ ++ fs.flatMap encX) from h2); have RW := qt RW hx; clear hx ho hb h2; go_wp2
 go_returns
 exact ⟨A3, c3, rfl, HR.out, RW.out⟩
def gB (nonce sealed : List UInt8) : List UInt8 := putL nonce.length 2 ++ putL sealed.length 2 ++ padB nonce 4 ++ padB sealed 4
theorem gBytes_any (A1 : Option Addr) (n1 c1 : Nat) (l1 : List UInt8) (A2 : Option Addr) (n2 c2 : Nat) (l2 : List UInt8) (w : World) (h1 : Bytes w A1 n1 c1 l1) (h2 : Bytes w A2 n2 c2 l2) (hn1 : n1 <= 10000) (hn2 : n2 <= 10000) : Calls Tryz.prog 94 #[.agg #[.slice A1 n1 c1, .slice A2 n2 c2]] w fun e w' => ∃ A' n' c', e = .returned (.slice A' n' c') ∧ Bytes w' A' n' c' (gB l1 l2) ∧ Below w.heap.size w w' := by
 have H1 := qq h1; have H2 := qq h2; have HGB : Hid (gB l1 l2 = putL n1 2 ++ (putL n2 2 ++ (padB l1 4 ++ padB l2 4))) := by unfold gB Hid; rw [h1.len, h2.len]; simp only [List.append_assoc]
 have wI1 : IntKind.u64.wrap (n1 : Int) = (n1 : Int) := IntWalk.u64_in _ (by omega); have wI2 : IntKind.u64.wrap (n2 : Int) = (n2 : Int) := IntWalk.u64_in _ (by omega); obtain ⟨T, hT⟩ : ∃ T, (gB l1 l2).length = T := ⟨_, rfl⟩; have hTb : T <= 1099511627776 := by
  rw [<- hT]; unfold gB padB padZ; have e1 := h1.len; have e2 := h2.len; rw [if_pos (by decide), if_pos (by decide)]; simp only [List.length_append, putL_length, List.length_replicate, e1, e2]; have := Nat.mod_lt n1 (show 4 > 0 by decide); have := Nat.mod_lt n2 (show 4 > 0 by decide); have t1 : (4 : Int).toNat = 4 := rfl; rw [t1]; omega
 have HTT := qq hT; clear h1 h2 hT
 go_enter Tryz.func94, Tryz.ntmps94
 go_upto_region 1 with fail
 obtain ⟨y1, x_, ey1, ex_⟩ : ∃ y1 x_, y1 = w.alloc (.cells #[.slice A1 n1 c1, .slice A2 n2 c2] 118) ∧ x_ = w.heap.size := ⟨_, _, rfl, rfl⟩; rw [<- ey1, <- ex_]; have hb1 : Below w.heap.size w y1 := by rw [ey1]; exact below_alloc1 _ _
 have BX := qq (show Blk y1 x_ 118 #[.slice A1 n1 c1, .slice A2 n2 c2] by rw [ey1, ex_]; exact Blk.new _ _ _); have H1 := qs H1 hb1; have H2 := qs H2 hb1; have RW := qq hb1; clear hb1 ey1 ex_; refine mono_start (fun _ => True) [pv (.pointer (some ⟨x_, 0, none⟩)), pv (.slice A1 n1 c1), pv (.int .i64 n1), pv (.int .u64 n1), mv (fun v u => ∃ A' c', v = .slice A' 2 c' ∧ Bytes u A' 2 c' (putL n1 2)), pv (.pointer (some ⟨x_, 1, none⟩)), pv (.slice A2 n2 c2), pv (.int .i64 n2), pv (.int .u64 n2), mv (fun v u => ∃ A' c', v = .slice A' 2 c' ∧ Bytes u A' 2 c' (putL n2 2)), pv (.pointer (some ⟨x_, 0, none⟩)), pv (.slice A1 n1 c1), mv (fun v u => ∃ A' n' c', v = .slice A' n' c' ∧ Bytes u A' n' c' (padB l1 4)), pv (.pointer (some ⟨x_, 1, none⟩)), pv (.slice A2 n2 c2), mv (fun v u => ∃ A' n' c', v = .slice A' n' c' ∧ Bytes u A' n' c' (padB l2 4)), mv (fun v u => ∃ b', v = .slice (some ⟨b', 0, none⟩) 4 4 ∧ Lists u (some ⟨b', 0, none⟩) 4 4 [putL n1 2, putL n2 2, padB l1 4, padB l2 4]), mv (fun v u => ∃ A' c', v = .slice A' T c' ∧ Bytes u A' T c' (gB l1 l2)), mv (fun v u => ∃ A' c', v = .slice A' T c' ∧ Bytes u A' T c' (gB l1 l2))] (by kernel_rfl) (by kernel_rfl) (fun OPS AV AL K w0 hO hA hL hK hb0 hz => ?_); refine step_pv (d := (some 3)) (hO.out 0 _ rfl) rfl rfl (fun wq hw => ?_) ?_
 · clear hO hA hL hK
   go_simp; try first | with_reducible rfl | assumption | decide
 try simp only [qp, qn]
 refine step_pg (d := (some 4)) (hO.out 1 _ rfl) rfl rfl (fun wq hw gt => ?_) ?_
 · have hx : Below y1.heap.size y1 wq := hb0.trans (hw.mono hb0.size); have k1 := (BX.out.stays hx).cell 0; clear gt hO hA hL hK
   go_simp; try first | with_reducible rfl | assumption | decide
 try simp only [qp, qn]
 refine step_pv (d := (some 5)) (hO.out 2 _ rfl) rfl rfl (fun wq hw => ?_) ?_
 · clear hO hA hL hK
   go_simp; try first | with_reducible rfl | assumption | decide
 try simp only [qp, qn]
 refine step_pv (d := (some 6)) (hO.out 3 _ rfl) rfl rfl (fun wq hw => ?_) ?_
 · clear hO hA hL hK
   go_simp; try first | with_reducible rfl | assumption | decide
 try simp only [qp, qn]
 refine step_mc (d := (some 7)) (hO.out 4 _ rfl) rfl rfl (fun wq hw gt => ?_) (fun v_4 x_4 => ?_)
 · have hx : Below y1.heap.size y1 wq := hb0.trans (hw.mono hb0.size); refine ⟨_, _, ?_, (put_reads n1 2 (by decide) _).mono (fun e q h => ?_)⟩
   · clear gt hO hA hL hK
     go_simp
   obtain ⟨A', c', rfl, h1, h2⟩ := h; exact ⟨_, rfl, ⟨A', c', rfl, h1⟩, h2⟩
 try simp only [qp, qn]
 refine step_pv (d := (some 8)) (hO.out 5 _ rfl) rfl rfl (fun wq hw => ?_) ?_
 · clear hO hA hL hK
   go_simp; try first | with_reducible rfl | assumption | decide
 try simp only [qp, qn]
 refine step_pg (d := (some 9)) (hO.out 6 _ rfl) rfl rfl (fun wq hw gt => ?_) ?_
 · have hx : Below y1.heap.size y1 wq := hb0.trans (hw.mono hb0.size); have k1 := (BX.out.stays hx).cell 1; clear gt hO hA hL hK
   go_simp; try first | with_reducible rfl | assumption | decide
 try simp only [qp, qn]
 refine step_pv (d := (some 10)) (hO.out 7 _ rfl) rfl rfl (fun wq hw => ?_) ?_
 · clear hO hA hL hK
   go_simp; try first | with_reducible rfl | assumption | decide
 try simp only [qp, qn]
 refine step_pv (d := (some 11)) (hO.out 8 _ rfl) rfl rfl (fun wq hw => ?_) ?_
 · clear hO hA hL hK
   go_simp; try first | with_reducible rfl | assumption | decide
 try simp only [qp, qn]
 refine step_mc (d := (some 12)) (hO.out 9 _ rfl) rfl rfl (fun wq hw gt => ?_) (fun v_9 x_9 => ?_)
 · have hx : Below y1.heap.size y1 wq := hb0.trans (hw.mono hb0.size); refine ⟨_, _, ?_, (put_reads n2 2 (by decide) _).mono (fun e q h => ?_)⟩
   · clear gt hO hA hL hK
     go_simp
   obtain ⟨A', c', rfl, h1, h2⟩ := h; exact ⟨_, rfl, ⟨A', c', rfl, h1⟩, h2⟩
 try simp only [qp, qn]
 refine step_pv (d := (some 13)) (hO.out 10 _ rfl) rfl rfl (fun wq hw => ?_) ?_
 · clear hO hA hL hK
   go_simp; try first | with_reducible rfl | assumption | decide
 try simp only [qp, qn]
 refine step_pg (d := (some 14)) (hO.out 11 _ rfl) rfl rfl (fun wq hw gt => ?_) ?_
 · have hx : Below y1.heap.size y1 wq := hb0.trans (hw.mono hb0.size); have k1 := (BX.out.stays hx).cell 0; clear gt hO hA hL hK
   go_simp; try first | with_reducible rfl | assumption | decide
 try simp only [qp, qn]
 refine step_mc (d := (some 15)) (hO.out 12 _ rfl) rfl rfl (fun wq hw gt => ?_) (fun v_12 x_12 => ?_)
 · have hx : Below y1.heap.size y1 wq := hb0.trans (hw.mono hb0.size); refine ⟨_, _, ?_, (pad_any l1 A1 n1 c1 4 _ (H1.out.stays hx) (by omega)).mono (fun e q h => ?_)⟩
   · clear gt hO hA hL hK
     go_simp
   obtain ⟨A', m', c', rfl, h1, h2⟩ := h; exact ⟨_, rfl, ⟨A', m', c', rfl, h1⟩, h2⟩
 try simp only [qp, qn]
 refine step_pv (d := (some 16)) (hO.out 13 _ rfl) rfl rfl (fun wq hw => ?_) ?_
 · clear hO hA hL hK
   go_simp; try first | with_reducible rfl | assumption | decide
 try simp only [qp, qn]
 refine step_pg (d := (some 17)) (hO.out 14 _ rfl) rfl rfl (fun wq hw gt => ?_) ?_
 · have hx : Below y1.heap.size y1 wq := hb0.trans (hw.mono hb0.size); have k1 := (BX.out.stays hx).cell 1; clear gt hO hA hL hK
   go_simp; try first | with_reducible rfl | assumption | decide
 try simp only [qp, qn]
 refine step_mc (d := (some 18)) (hO.out 15 _ rfl) rfl rfl (fun wq hw gt => ?_) (fun v_15 x_15 => ?_)
 · have hx : Below y1.heap.size y1 wq := hb0.trans (hw.mono hb0.size); refine ⟨_, _, ?_, (pad_any l2 A2 n2 c2 4 _ (H2.out.stays hx) (by omega)).mono (fun e q h => ?_)⟩
   · clear gt hO hA hL hK
     go_simp
   obtain ⟨A', m', c', rfl, h1, h2⟩ := h; exact ⟨_, rfl, ⟨A', m', c', rfl, h1⟩, h2⟩
 try simp only [qp, qn]
 refine step_mv (d := (some 19)) (hO.out 16 _ rfl) rfl rfl (fun wq hw gt => ?_) (fun v_16 x_16 => ?_)
 · have hx : Below y1.heap.size y1 wq := hb0.trans (hw.mono hb0.size); obtain ⟨⟨B1, d1, rfl, k1⟩, kb1⟩ := (gt 4 (hA.out 16 4 (by kernel_rfl))); obtain ⟨⟨B2, d2, rfl, k2⟩, kb2⟩ := (gt 9 (hA.out 16 9 (by kernel_rfl))); obtain ⟨⟨B3, m3, d3, rfl, k3⟩, kb3⟩ := (gt 12 (hA.out 16 12 (by kernel_rfl))); obtain ⟨⟨B4, m4, d4, rfl, k4⟩, kb4⟩ := (gt 15 (hA.out 16 15 (by kernel_rfl))); refine ⟨_, _, ?_, ⟨_, rfl, lists_made4 (E := 27) (k1.stays kb1) (k2.stays kb2) (k3.stays kb3) (k4.stays kb4)⟩, (Below.refl _ _).alloc (Nat.le_refl _) _⟩; clear gt hO hA hL hK
   go_simp; try first | with_reducible rfl | rfl
 try simp only [qp, qn]
 refine step_mc (d := (some 20)) (hO.out 17 _ rfl) rfl rfl (fun wq hw gt => ?_) (fun v_17 x_17 => ?_)
 · have hx : Below y1.heap.size y1 wq := hb0.trans (hw.mono hb0.size); obtain ⟨⟨b', rfl, hLs⟩, hbk⟩ := (gt 16 (hA.out 17 16 (by kernel_rfl))); refine ⟨_, _, ?_, (join_any _ _ _ [putL n1 2, putL n2 2, padB l1 4, padB l2 4] _ (hLs.stays hbk) T (by rw [<- HTT.out, HGB.out]; simp) hTb).mono (fun e q h => ?_)⟩
   · clear gt hO hA hL hK
     go_simp
   obtain ⟨A', c', rfl, h1, h2⟩ := h; have h3 := own_rd h1; rw [show [putL n1 2, putL n2 2, padB l1 4, padB l2 4].flatten = gB l1 l2 by rw [HGB.out]; simp] at h3; exact ⟨_, rfl, ⟨A', c', rfl, h3⟩, h2⟩
 try simp only [qp, qn]
 refine step_mv (d := (some 2)) (hO.out 18 _ rfl) rfl rfl (fun wq hw gt => ?_) (fun v_18 x_18 => ?_)
 · have hx : Below y1.heap.size y1 wq := hb0.trans (hw.mono hb0.size); obtain ⟨⟨A', c', rfl, hR⟩, hbk⟩ := (gt 17 (hA.out 18 17 (by kernel_rfl))); refine ⟨_, _, ?_, ⟨A', c', rfl, hR.stays hbk⟩, Below.refl _ _⟩; clear gt hO hA hL hK
   go_simp; try first | with_reducible rfl | rfl
 try simp only [qp, qn]
 refine fun wq hw gt => hK.out _ _ ?_
 obtain ⟨⟨A', c', rfl, hR⟩, hbk⟩ := (gt 18 (hL.out 18 (by kernel_rfl))); have hx : Below y1.heap.size y1 wq := hb0.trans (hw.mono hb0.size); clear gt hO hA hL hK; refine wpAnyH_done (by kernel_rfl) ?_ _; have HR := qq (hR.stays hbk); have RW := qt RW hx; clear hR hbk hx hw hz hb0; go_wp2
 go_returns
 exact ⟨A', T, c', rfl, HR.out, RW.out⟩
theorem padB4 (l : List UInt8) (h : l.length % 4 = 0) : padB l 4 = l := by
 unfold padB padZ; rw [if_pos (by decide)]; have t1 : (4 : Int).toNat = 4 := rfl; rw [t1, h]; simp
theorem gB_eq {nonce sealed : List UInt8} {m : Nat} (hn : nonce.length = 16) (hm4 : m % 4 = 0) (hs : sealed.length = m) : gB nonce sealed = (putL 16 2 ++ putL m 2) ++ (nonce ++ sealed) := by
 unfold gB; rw [padB4 _ (by omega), padB4 _ (by omega), hn, hs]; simp only [List.append_assoc]
theorem gB_length {nonce sealed : List UInt8} {m : Nat} (hn : nonce.length = 16) (hm4 : m % 4 = 0) (hs : sealed.length = m) : (gB nonce sealed).length = 20 + m := by
 rw [gB_eq hn hm4 hs]; simp [putL_length, hn, hs]; omega
theorem padded16_any (w : World) : Calls Tryz.prog 107 #[.int .i64 16] w fun e w' => e = .returned (.int .i64 16) ∧ w = w' := padded_any 16 (by decide) w
theorem padded_of (n : Nat) (hn : n <= 1000000) (h : n % 4 = 0) (w : World) : Calls Tryz.prog 107 #[.int .i64 n] w fun e w' => e = .returned (.int .i64 n) ∧ w = w' := by
 have := padded_any n hn w; rw [show (n + 3) / 4 * 4 = n by omega] at this; exact this
theorem be64_p2 (v : Nat) (h : v <= 65535) : be64 (putL v 2) 2 = v := by
 simp [be64, be, putL]; omega
theorem parse_any (nonce sealed : List UInt8) (m : Nat) (hn : nonce.length = 16) (hm4 : m % 4 = 0) (hm : m <= 2000) (hs : sealed.length = m) (A : Option Addr) (c : Nat) (w : World) (h : Bytes w A (20 + m) c (gB nonce sealed)) : Calls Tryz.prog 58 #[.slice A (20 + m) c] w fun e w' => ∃ A1 c1 A2 c2, e = .returned (.tuple #[.agg #[.slice A1 16 c1, .slice A2 m c2], .bool true]) ∧ Bytes w' A1 16 c1 nonce ∧ Bytes w' A2 m c2 sealed ∧ Below w.heap.size w w' := by
 have HB := qq h; have HGE := qq (gB_eq hn hm4 hs); have HN := qq hn; have HM4 := qq hm4; obtain ⟨n, hnn⟩ : ∃ n, 20 + m = n := ⟨_, rfl⟩; rw [hnn] at HB ⊢; have HNN := qq hnn; clear h hn hs hm4 hnn
 go_enter Tryz.func58, Tryz.ntmps58
 go_upto_region 1 with fail
 obtain ⟨y1, r_, ey1, er_⟩ : ∃ y1 r_, y1 = w.alloc (.cells #[.slice none 0 0, .slice none 0 0] 118) ∧ r_ = w.heap.size := ⟨_, _, rfl, rfl⟩; rw [<- ey1, <- er_]; have hb1 : Below w.heap.size w y1 := by rw [ey1]; exact below_alloc1 _ _
 have BR := qq (show Blk y1 r_ 118 #[.slice none 0 0, .slice none 0 0] by rw [ey1, er_]; exact Blk.new _ _ _); have wr_ : w.heap.size <= r_ := by rw [er_]; exact Nat.le_refl _
 have HB := qs HB hb1; have RW := qq hb1; clear hb1 ey1 er_
 go_wp2_with fail
 refine (cut_ok _ A n c 4 _ HB.out (by have := HNN.out; omega) (by have := HNN.out; omega)).mono ?_; rintro e y2 ⟨A1, c1, A2, c2, rfl, hh, hr, hx⟩; rw [HGE.out, List.take_append_of_le_length (by simp [putL_length]), List.take_of_length_le (by simp [putL_length])] at hh; rw [HGE.out, List.drop_append_of_le_length (by simp [putL_length]), List.drop_of_length_le (by simp [putL_length]), List.nil_append] at hr; have HH1 := qq (show Bytes y2 A1 2 c1 (putL 16 2) from by
  have h := hh.cutTo 2 (by decide)
  rwa [List.take_append_of_le_length (by simp [putL_length]), List.take_of_length_le (by simp [putL_length])] at h)
 have HH2 := qq (show Bytes y2 (cutA A1 c1 2) 2 (c1 - 2) (putL m 2) from by
  have h := hh.cutFrom 2 (by decide) (d := 2) (k := c1 - 2) rfl rfl
  rwa [List.drop_append_of_le_length (by simp [putL_length]), List.drop_of_length_le (by simp [putL_length]), List.nil_append] at h)
 have hle1 : 4 <= c1 := hh.le; have hcap1 := hh.cap; have k2I : ¬ (c1 : Int) < 2 := by omega
 have s1 := run_cutFrom (P := Tryz.prog) und_bytes size_byte (A := A1) (n := 4) (c := c1) 2 2 2 (c1 - 2) rfl (by decide) rfl rfl; have eT : n - 4 = 16 + m := by have := HNN.out; omega
 rw [eT] at hr; have HR1 := qq (show Bytes y2 A2 16 c2 nonce from by
  have h := hr.cutTo 16 (by omega)
  rwa [List.take_append_of_le_length (by rw [HN.out]; decide), List.take_of_length_le (by rw [HN.out]; decide)] at h)
 have HR2 := qq (show Bytes y2 (cutA A2 c2 16) m (c2 - 16) sealed from by
  have h := hr.cutFrom 16 (by omega) (d := m) (k := c2 - 16) (by omega) rfl
  rwa [List.drop_append_of_le_length (by rw [HN.out]; decide), List.drop_of_length_le (by rw [HN.out]; decide), List.nil_append] at h)
 obtain ⟨T, hT⟩ : ∃ T, n - 4 = T := ⟨_, rfl⟩; rw [hT] at eT ⊢; have hle2 : T <= c2 := by rw [eT]; exact hr.le
 have hcap2 := hr.cap; have s2 := run_cut (P := Tryz.prog) und_bytes size_byte (A := A2) (n := T) (c := c2) 16 (T : Int) 16 T m (c2 - 16) rfl rfl (by omega) hle2 (by omega) rfl; have tI : (16 : Int) + (m : Int) = (T : Int) := by omega
 have tW : IntKind.i64.wrap (T : Int) = (T : Int) := IntWalk.i64_in _ (by omega); have mW : IntKind.i64.wrap (m : Int) = (m : Int) := IntWalk.i64_in _ (by omega); have l16 : 16 <= c2 := by omega
 have k16I : ¬ (c2 : Int) < 16 := by omega
 have BR := qs BR hx; have HB := qs HB hx; have RW := qt RW hx; clear hx hh hr eT hT
 go_upto_region 4 with fail
 refine mono_start (fun _ => True) [pv (.slice A1 4 c1), pv (.slice A1 2 c1), pv (.int .u64 16), pv (.int .i64 16), pv (.slice A1 4 c1), pv (.slice (cutA A1 c1 2) 2 (c1 - 2)), pv (.int .u64 m), pv (.int .i64 m), pv (.int .i64 16), pv (.int .i64 m)] (by kernel_rfl) (by kernel_rfl) (fun OPS AV AL K w0 hO hA hL hK hb0 hz => ?_); refine step_pv (d := (some 19)) (hO.out 0 _ rfl) rfl rfl (fun wq hw => ?_) ?_
 · clear hO hA hL hK
   go_simp; try first | with_reducible rfl | assumption | decide
 try simp only [qp, qn]
 refine step_pv (d := (some 20)) (hO.out 1 _ rfl) rfl rfl (fun wq hw => ?_) ?_
 · clear hO hA hL hK
   go_simp; try first | with_reducible rfl | assumption | decide
 try simp only [qp, qn]
 refine step_pk (d := (some 21)) (hO.out 2 _ rfl) rfl rfl (fun wq hw gt => ?_) ?_
 · have hx : Below y2.heap.size y2 wq := hb0.trans (hw.mono hb0.size); have h := get_any A1 2 c1 _ _ (HH1.out.stays hx); rw [be64_p2 16 (by decide)] at h; refine ⟨_, _, ?_, h.mono (fun e q hq => ⟨hq.1, hq.2 ▸ Below.refl _ _⟩)⟩; clear gt hO hA hL hK
   go_simp
 try simp only [qp, qn]
 refine step_pv (d := (some 22)) (hO.out 3 _ rfl) rfl rfl (fun wq hw => ?_) ?_
 · clear hO hA hL hK
   go_simp; try first | with_reducible rfl | assumption | decide
 try simp only [qp, qn]
 refine step_pv (d := (some 23)) (hO.out 4 _ rfl) rfl rfl (fun wq hw => ?_) ?_
 · clear hO hA hL hK
   go_simp; try first | with_reducible rfl | assumption | decide
 try simp only [qp, qn]
 refine step_pg (d := (some 24)) (hO.out 5 _ rfl) rfl rfl (fun wq hw gt => ?_) ?_
 · have hx : Below y2.heap.size y2 wq := hb0.trans (hw.mono hb0.size); have s2 := s1 wq; clear gt hO hA hL hK
   go_simp; try first | with_reducible rfl | assumption | decide
 try simp only [qp, qn]
 refine step_pk (d := (some 25)) (hO.out 6 _ rfl) rfl rfl (fun wq hw gt => ?_) ?_
 · have hx : Below y2.heap.size y2 wq := hb0.trans (hw.mono hb0.size); have h := get_any _ 2 _ _ _ (HH2.out.stays hx); rw [be64_p2 m (by omega)] at h; refine ⟨_, _, ?_, h.mono (fun e q hq => ⟨hq.1, hq.2 ▸ Below.refl _ _⟩)⟩; clear gt hO hA hL hK
   go_simp
 try simp only [qp, qn]
 refine step_pv (d := (some 26)) (hO.out 7 _ rfl) rfl rfl (fun wq hw => ?_) ?_
 · clear hO hA hL hK
   go_simp; try first | with_reducible rfl | assumption | decide
 try simp only [qp, qn]
 refine step_pv (d := (some 7)) (hO.out 8 _ rfl) rfl rfl (fun wq hw => ?_) ?_
 · clear hO hA hL hK
   go_simp; try first | with_reducible rfl | assumption | decide
 try simp only [qp, qn]
 refine step_pv (d := (some 8)) (hO.out 9 _ rfl) rfl rfl (fun wq hw => ?_) ?_
 · clear hO hA hL hK
   go_simp; try first | with_reducible rfl | assumption | decide
 try simp only [qp, qn]
 refine fun wq hw gt => hK.out _ _ ?_
 have hx : Below y2.heap.size y2 wq := hb0.trans (hw.mono hb0.size); clear gt hO hA hL hK s1; refine wpAnyH_done (by kernel_rfl) ?_ _; obtain ⟨y3, hy3⟩ : ∃ y3, wq = y3 := ⟨_, rfl⟩; rw [hy3] at hx ⊢; have BR := qs BR hx; have HB := qs HB hx; have HR1 := qs HR1 hx; have HR2 := qs HR2 hx; have RW := qt RW hx; clear hx hw hz hb0 hy3 HH1 HH2
 go_wp2_with fail
 refine (nonced_any _).mono ?_; rintro e y4 ⟨rfl, hy⟩; subst hy
 go_wp2_with fail
 refine (padded16_any _).mono ?_; rintro e y4 ⟨rfl, hy⟩; subst hy
 go_wp2_with fail
 refine (padded_of m (by omega) HM4.out _).mono ?_; rintro e y4 ⟨rfl, hy⟩; subst hy
 go_upto_region 7 with fail
 refine mono_start (fun _ => True) [pv (.slice A2 T c2), pv (.int .i64 16), pv (.slice A2 16 c2), pv (.slice A2 T c2), pv (.int .i64 16), pv (.int .i64 16), pv (.int .i64 16), pv (.int .i64 16), pv (.int .i64 m), pv (.int .i64 T), pv (.slice (cutA A2 c2 16) m (c2 - 16)), pv (.agg #[.slice A2 16 c2, .slice (cutA A2 c2 16) m (c2 - 16)]), mv (fun v u => ∃ b, v = .pointer (some ⟨b, 0, none⟩) ∧ y3.heap.size <= b ∧ Blk u b 118 #[.slice none 0 0, .slice none 0 0])] (by kernel_rfl) (by kernel_rfl) (fun OPS AV AL K w0 hO hA hL hK hb0 hz => ?_); refine step_pv (d := (some 41)) (hO.out 0 _ rfl) rfl rfl (fun wq hw => ?_) ?_
 · clear hO hA hL hK
   go_simp; try first | with_reducible rfl | assumption | decide
 try simp only [qp, qn]
 refine step_pv (d := (some 42)) (hO.out 1 _ rfl) rfl rfl (fun wq hw => ?_) ?_
 · clear hO hA hL hK
   go_simp; try first | with_reducible rfl | assumption | decide
 try simp only [qp, qn]
 refine step_pv (d := (some 43)) (hO.out 2 _ rfl) rfl rfl (fun wq hw => ?_) ?_
 · clear hO hA hL hK
   go_simp; try first | with_reducible rfl | assumption | decide
 try simp only [qp, qn]
 refine step_pv (d := (some 44)) (hO.out 3 _ rfl) rfl rfl (fun wq hw => ?_) ?_
 · clear hO hA hL hK
   go_simp; try first | with_reducible rfl | assumption | decide
 try simp only [qp, qn]
 refine step_pv (d := (some 45)) (hO.out 4 _ rfl) rfl rfl (fun wq hw => ?_) ?_
 · clear hO hA hL hK
   go_simp; try first | with_reducible rfl | assumption | decide
 try simp only [qp, qn]
 refine step_pk (d := (some 46)) (hO.out 5 _ rfl) rfl rfl (fun wq hw gt => ?_) ?_
 · have hx : Below y3.heap.size y3 wq := hb0.trans (hw.mono hb0.size); refine ⟨_, _, ?_, (padded16_any _).mono (fun e q hq => ⟨hq.1, hq.2 ▸ Below.refl _ _⟩)⟩; clear gt hO hA hL hK
   go_simp
 try simp only [qp, qn]
 refine step_pv (d := (some 47)) (hO.out 6 _ rfl) rfl rfl (fun wq hw => ?_) ?_
 · clear hO hA hL hK
   go_simp; try first | with_reducible rfl | assumption | decide
 try simp only [qp, qn]
 refine step_pk (d := (some 48)) (hO.out 7 _ rfl) rfl rfl (fun wq hw gt => ?_) ?_
 · have hx : Below y3.heap.size y3 wq := hb0.trans (hw.mono hb0.size); refine ⟨_, _, ?_, (padded16_any _).mono (fun e q hq => ⟨hq.1, hq.2 ▸ Below.refl _ _⟩)⟩; clear gt hO hA hL hK
   go_simp
 try simp only [qp, qn]
 refine step_pv (d := (some 49)) (hO.out 8 _ rfl) rfl rfl (fun wq hw => ?_) ?_
 · clear hO hA hL hK
   go_simp; try first | with_reducible rfl | assumption | decide
 try simp only [qp, qn]
 refine step_pv (d := (some 50)) (hO.out 9 _ rfl) rfl rfl (fun wq hw => ?_) ?_
 · clear hO hA hL hK
   go_simp; try first | with_reducible rfl | assumption | decide
 try simp only [qp, qn]
 refine step_pg (d := (some 51)) (hO.out 10 _ rfl) rfl rfl (fun wq hw gt => ?_) ?_
 · have hx : Below y3.heap.size y3 wq := hb0.trans (hw.mono hb0.size); have s3 := s2 wq; clear gt hO hA hL hK
   go_simp; try first | with_reducible rfl | assumption | decide
 try simp only [qp, qn]
 refine step_pv (d := (some 52)) (hO.out 11 _ rfl) rfl rfl (fun wq hw => ?_) ?_
 · clear hO hA hL hK
   go_simp; try first | with_reducible rfl | assumption | decide
 try simp only [qp, qn]
 refine step_mv (d := (some 9)) (hO.out 12 _ rfl) rfl rfl (fun wq hw gt => ?_) (fun v_a12 x_a12 => ?_)
 · have hx : Below y3.heap.size y3 wq := hb0.trans (hw.mono hb0.size); refine ⟨_, _, ?_, ⟨_, rfl, hx.size, Blk.new _ _ _⟩, (Below.refl _ _).alloc (Nat.le_refl _) _⟩; clear gt hO hA hL hK
   go_simp; try first | with_reducible rfl | rfl
 try simp only [qp, qn]
 refine fun wq hw gt => hK.out _ _ ?_
 obtain ⟨⟨b, rfl, hbl, hB⟩, hbk⟩ := (gt 12 (hL.out 12 (by kernel_rfl))); have hx : Below y3.heap.size y3 wq := hb0.trans (hw.mono hb0.size); have hB := hB.stays hbk; clear gt hO hA hL hK; refine take_store_part (j := 13) rfl rfl (by kernel_rfl) rfl 118 _ _ rfl b 0 118 [] [.slice none 0 0, .slice none 0 0] [] [.slice A2 16 c2, .slice (cutA A2 c2 16) m (c2 - 16)] rfl rfl hB rfl rfl infoGd (by simp [Value.oneCell']) (fun _ _ => trivial) (fun w5 D5 G5 => ?_); rw [List.append_nil, List.nil_append] at D5; refine wpAnyH_done (by kernel_rfl) ?_ _; have hx5 : Below y3.heap.size y3 w5 := hx.grown G5 hx.size (fun k hk => by cases hk; exact hbl); have BG := qq D5; have BR := qs BR hx5; have HB := qs HB hx5; have HR1 := qs HR1 hx5; have HR2 := qs HR2 hx5; have RW := qt RW hx5; clear hx hw hz hb0 hx5 hB hbk hbl D5 G5 s2
 go_upto_region 8 with fail
 refine mono_start (fun _ => True) [pv (.agg #[.slice A2 16 c2, .slice (cutA A2 c2 16) m (c2 - 16)]), pv (.agg #[.slice A2 16 c2, .slice (cutA A2 c2 16) m (c2 - 16)]), mv (fun v u => ∃ A' n' c', v = .slice A' n' c' ∧ Bytes u A' n' c' (gB nonce sealed)), pv (.slice A n c), mv (fun v u => v = .bool true)] (by kernel_rfl) (by kernel_rfl) (fun OPS AV AL K w0 hO hA hL hK hb0 hz => ?_); refine step_pg (d := (some 53)) (hO.out 0 _ rfl) rfl rfl (fun wq hw gt => ?_) ?_
 · have hx : Below w5.heap.size w5 wq := hb0.trans (hw.mono hb0.size); have k1 := (BG.out.stays hx).cell 0; have k2 := (BG.out.stays hx).cell 1; clear gt hO hA hL hK
   go_simp; try first | with_reducible rfl | assumption | decide
 try simp only [qp, qn]
 refine step_pg (d := (some 54)) (hO.out 1 _ rfl) rfl rfl (fun wq hw gt => ?_) ?_
 · have hx : Below w5.heap.size w5 wq := hb0.trans (hw.mono hb0.size); have k1 := (BG.out.stays hx).cell 0; have k2 := (BG.out.stays hx).cell 1; clear gt hO hA hL hK
   go_simp; try first | with_reducible rfl | assumption | decide
 try simp only [qp, qn]
 refine step_mc (d := (some 55)) (hO.out 2 _ rfl) rfl rfl (fun wq hw gt => ?_) (fun v_b2 x_b2 => ?_)
 · have hx : Below w5.heap.size w5 wq := hb0.trans (hw.mono hb0.size); refine ⟨_, _, ?_, (gBytes_any _ _ _ _ _ _ _ _ _ (HR1.out.stays hx) (HR2.out.stays hx) (by decide) (by omega)).mono (fun e q h => ?_)⟩
   · clear gt hO hA hL hK
     go_simp
   obtain ⟨A', n', c', rfl, h1, h2⟩ := h; exact ⟨_, rfl, ⟨A', n', c', rfl, h1⟩, h2⟩
 try simp only [qp, qn]
 refine step_pv (d := (some 56)) (hO.out 3 _ rfl) rfl rfl (fun wq hw => ?_) ?_
 · clear hO hA hL hK
   go_simp; try first | with_reducible rfl | assumption | decide
 try simp only [qp, qn]
 refine step_mc (d := (some 57)) (hO.out 4 _ rfl) rfl rfl (fun wq hw gt => ?_) (fun v_b4 x_b4 => ?_)
 · have hx : Below w5.heap.size w5 wq := hb0.trans (hw.mono hb0.size); obtain ⟨⟨A', n', c', rfl, h1⟩, hbk⟩ := (gt 2 (hA.out 4 2 (by kernel_rfl))); refine ⟨_, _, ?_, (octSame_any _ _ _ _ _ _ _ _ _ (h1.stays hbk) (HB.out.stays hx)).mono (fun e q h => ?_)⟩
   · clear gt hO hA hL hK
     go_simp
   obtain ⟨rfl, rfl⟩ := h; exact ⟨_, rfl, by rw [decide_eq_true rfl], Below.refl _ _⟩
 try simp only [qp, qn]
 refine fun wq hw gt => hK.out _ _ ?_
 obtain ⟨rfl, hbk⟩ := (gt 4 (hL.out 4 (by kernel_rfl))); have hx : Below w5.heap.size w5 wq := hb0.trans (hw.mono hb0.size); have BR := BR.out.stays hx; clear gt hO hA hL hK; refine take_store_part (j := 5) rfl rfl (by kernel_rfl) rfl 118 _ _ rfl r_ 0 118 [] [.slice none 0 0, .slice none 0 0] [] [.slice A2 16 c2, .slice (cutA A2 c2 16) m (c2 - 16)] rfl rfl BR rfl rfl infoGd (by simp [Value.oneCell']) (fun _ _ => trivial) (fun w6 D6 G6 => ?_); rw [List.append_nil, List.nil_append] at D6; refine take_do (j := 6) (d := (some 3)) (v := .bool true) (w2 := w6) rfl rfl (by kernel_rfl) rfl (Or.inl (by go_simp; try with_reducible rfl)) trivial ?_; try simp only [qp, qn]
 refine wpAnyH_done (by kernel_rfl) ?_ _
 go_wp2_with fail
 have k1 := HR1.out.stays hx; have k2 := HR2.out.stays hx; have r1 := RW.out.trans (hx.mono RW.out.size); refine bodyPost_ret (results_whole2 rfl _ _ r_ _ _ _ _ rfl rfl D6 Tryz.underlying118 rfl infoGd) rfl ⟨A2, c2, cutA A2 c2 16, c2 - 16, rfl, k1.kept G6 (off_block k1 BR rfl), k2.kept G6 (off_block k2 BR rfl), r1.grown G6 r1.size (fun k hk => by cases hk; exact wr_)⟩
end Go.Proofs.YtiemnacoebkalaaGreat
