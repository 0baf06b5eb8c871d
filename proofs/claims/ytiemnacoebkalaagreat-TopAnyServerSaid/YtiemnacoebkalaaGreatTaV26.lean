import Derived.Test.YtiemnacoebkalaaGreatTaV19
import Derived.Test.YtiemnacoebkalaaGreatTaV24
set_option linter.all false
set_option maxRecDepth 100000
set_option maxHeartbeats 4000000
namespace Go.Proofs.YtiemnacoebkalaaGreat
open Go Go.RowKit
def upS : List UInt8 := [115, 101, 99, 116, 105, 109, 101, 32, 117, 112]
def downS : List UInt8 := [115, 101, 99, 116, 105, 109, 101, 32, 100, 111, 119, 110]
def upK (s : List UInt8) : List UInt8 := expandL s upS 32
def downK (s : List UInt8) : List UInt8 := expandL s downS 32
def sendK (cl : Bool) (s : List UInt8) : List UInt8 := if cl = true then upK s else downK s
def recvK (cl : Bool) (s : List UInt8) : List UInt8 := if cl = true then downK s else upK s
def chZ : List Value := [.bool false, .slice none 0 0, .slice none 0 0, .slice none 0 0, .int .i64 0, .int .i64 0]
theorem infoCh : (Tryz.prog.info? 60).map (·.size) = some 6 := by kernel_rfl
theorem index2_0 (a b : ByteArray) (W : World) : (Instr.index 172 (.agg #[.string a, .string b]) (.int .i64 0)).run Tryz.prog W = .ok (.string a) W := by kernel_rfl
theorem index2_1 (a b : ByteArray) (W : World) : (Instr.index 172 (.agg #[.string a, .string b]) (.int .i64 1)).run Tryz.prog W = .ok (.string b) W := by kernel_rfl
def KI (a_ : Nat) (s : List UInt8) (k : Nat) (w : World) : Prop :=
 (k = 0 ∧ Blk w a_ 171 #[.slice none 0 0, .slice none 0 0]) ∨
 (k = 1 ∧ ∃ A1, Blk w a_ 171 #[.slice A1 32 32, .slice none 0 0] ∧ Bytes w A1 32 32 (upK s)) ∨
 (k = 2 ∧ ∃ A1 A2, Blk w a_ 171 #[.slice A1 32 32, .slice A2 32 32] ∧ Bytes w A1 32 32 (upK s) ∧ Bytes w A2 32 32 (downK s))
theorem keyed_any (cl : Bool) (A : Option Addr) (c : Nat) (s : List UInt8) (w : World) (hk : Bytes w A 32 c s) : Calls Tryz.prog 50 #[.bool cl, .slice A 32 c] w fun e w' => ∃ A2 A3, e = .returned (.agg #[.bool cl, .slice A 32 c, .slice A2 32 32, .slice A3 32 32, .int .i64 0, .int .i64 0]) ∧ Bytes w' A2 32 32 (sendK cl s) ∧ Bytes w' A3 32 32 (recvK cl s) ∧ Below w.heap.size w w' := by
 have HK := qq hk; clear hk
 go_enter Tryz.func50, Tryz.ntmps50
 go_upto_region 3 with fail
 obtain ⟨y1, r_, a_, ey1, er_, ea_⟩ : ∃ y1 r_ a_, y1 = (w.alloc (.cells chZ.toArray 60)).alloc (.cells #[.slice none 0 0, .slice none 0 0] 171) ∧ r_ = w.heap.size ∧ a_ = w.heap.size + 1 := ⟨_, _, _, rfl, rfl, rfl⟩; rw [show (#[.bool false, .slice none 0 0, .slice none 0 0, .slice none 0 0, .int .i64 0, .int .i64 0] : Array Value) = chZ.toArray from rfl]; rw [<- ey1, <- ea_, <- er_]; have hb1 : Below w.heap.size w y1 := by rw [ey1]; exact below_alloc2 _ _ _
 have BR := qq (show Blk y1 r_ 60 chZ.toArray by rw [ey1, er_]; exact blk_new2_0 _ _ _ _ _); have BA := qq (show Blk y1 a_ 171 #[.slice none 0 0, .slice none 0 0] by rw [ey1, ea_]; exact blk_new2_1 _ _ _ _ _); have wr_ : w.heap.size <= r_ := by omega
 have wa_ : w.heap.size <= a_ := by omega
 have ra : r_ < a_ := by omega
 have R1 := qq hb1; clear hb1 ey1 er_ ea_; obtain ⟨su, hsu⟩ : ∃ su : ByteArray, su = ⟨#[115, 101, 99, 116, 105, 109, 101, 32, 117, 112]⟩ := ⟨_, rfl⟩; obtain ⟨sd, hsd⟩ : ∃ sd : ByteArray, sd = ⟨#[115, 101, 99, 116, 105, 109, 101, 32, 100, 111, 119, 110]⟩ := ⟨_, rfl⟩; rw [<- hsu, <- hsd]; have HSU : Hid (su.data.toList = upS) := by rw [hsu]; rfl
 have HSD : Hid (sd.data.toList = downS) := by rw [hsd]; rfl
 have su1 : su.size = 10 := by rw [hsu]; rfl
 have sd1 : sd.size = 12 := by rw [hsd]; rfl
 clear hsu hsd
 go_loopw [10] (fun sv wr => ∃ k : Nat, sv = .int .i64 k ∧ Hid (KI a_ s k wr) ∧ Hid (Blk wr r_ 60 chZ.toArray) ∧ Below w.heap.size w wr) (fun sv _ => match sv with | .int _ k => (2 - k).toNat | _ => 0)
 case atStart => exact ⟨0, rfl, .inl ⟨rfl, BA.out⟩, BR.out, R1.out⟩
 case round =>
  clear BA BR R1; obtain ⟨k, rfl, HKI, HR, hb⟩ := hrel; have RW := qq hb; clear hb; have hKI : KI a_ s k wr := HKI.out; clear HKI; rcases hKI with ⟨rfl, hB⟩ | ⟨rfl, A1, hB, h1⟩ | ⟨rfl, A1, A2, hB, h1, h2⟩
  · have HB := qq hB; have hcv := fun (W : World) => Lib.run_convert_string_bytes (P := Tryz.prog) W 9 27 5 su Tryz.underlying9 Tryz.underlying27 Tryz.underlying5
    have hix := index2_0 su sd; clear hB
    go_wp2_with fail
    clear hcv hix; have kc := conv_below wr 5 su; have SBc := qq (conv_reads wr 5 su (by rw [su1]; unfold maxLen; omega)); rw [su1] at SBc; obtain ⟨wc, hwc⟩ : ∃ x, x = Lib.bytesWorld wr 5 su := ⟨_, rfl⟩; rw [<- hwc] at kc SBc ⊢; try rw [su1]
    have R2 := qt RW kc; have HB := qs HB kc; have HR := qs HR kc; clear kc hwc; refine (expand_any s su.data.toList A 32 c _ 10 _ 32 _ (HK.out.stays R2.out) SBc.out (by decide) (by decide)).mono ?_; rintro e y2 ⟨A1, rfl, hx, hb2⟩; have HY : Hid (Bytes y2 A1 32 32 (upK s)) := by unfold Hid upK; rw [<- HSU.out]; exact hx
    have HB := qs HB hb2; have HR := qs HR hb2; have R3 := qt R2 hb2; have c0 := HB.out.cell 0; have f0 := HB.out.frozen 0; clear hx hb2 SBc; go_wp2
    go_roundw
    have G : y2.grownBy (y2.setCell ⟨a_, 0, none⟩ (.slice A1 32 32)) (some a_) := grown_put (World.grownBy.refl _ _) 0 _
    case rel => exact ⟨1, rfl, .inr (.inl ⟨rfl, A1, HB.out.put 0 _, HY.out.kept G (off_block HY.out HB.out rfl)⟩), HR.out.grown G (by simp; omega), R3.out.grown G R3.out.size (fun k hk => by cases hk; exact wa_)⟩
    case measure => simp
  · have HB := qq hB; have H1 := qq h1; have hcv := fun (W : World) => Lib.run_convert_string_bytes (P := Tryz.prog) W 9 27 5 sd Tryz.underlying9 Tryz.underlying27 Tryz.underlying5
    have hix := index2_1 su sd; clear hB h1
    go_wp2_with fail
    clear hcv hix; have kc := conv_below wr 5 sd; have SBc := qq (conv_reads wr 5 sd (by rw [sd1]; unfold maxLen; omega)); rw [sd1] at SBc; obtain ⟨wc, hwc⟩ : ∃ x, x = Lib.bytesWorld wr 5 sd := ⟨_, rfl⟩; rw [<- hwc] at kc SBc ⊢; try rw [sd1]
    have R2 := qt RW kc; have HB := qs HB kc; have HR := qs HR kc; have H1 := qs H1 kc; clear kc hwc; refine (expand_any s sd.data.toList A 32 c _ 12 _ 32 _ (HK.out.stays R2.out) SBc.out (by decide) (by decide)).mono ?_; rintro e y2 ⟨A2, rfl, hx, hb2⟩; have HY : Hid (Bytes y2 A2 32 32 (downK s)) := by unfold Hid downK; rw [<- HSD.out]; exact hx
    have HB := qs HB hb2; have HR := qs HR hb2; have H1 := qs H1 hb2; have R3 := qt R2 hb2; have c0 := HB.out.cell 1; have f0 := HB.out.frozen 1; clear hx hb2 SBc; go_wp2
    go_roundw
    have G : y2.grownBy (y2.setCell ⟨a_, 1, none⟩ (.slice A2 32 32)) (some a_) := grown_put (World.grownBy.refl _ _) 1 _
    case rel => exact ⟨2, rfl, .inr (.inr ⟨rfl, A1, A2, HB.out.put 1 _, H1.out.kept G (off_block H1.out HB.out rfl), HY.out.kept G (off_block HY.out HB.out rfl)⟩), HR.out.grown G (by simp; omega), R3.out.grown G R3.out.size (fun k hk => by cases hk; exact wa_)⟩
    case measure => simp
  · have HB := qq hB; have HY1 := qq h1; have HY2 := qq h2; clear hB h1 h2
    cases cl with
    | true =>
     go_upto_region 10 with fail
     refine mono_start (fun _ => True) [pv (.bool true), pv (.slice A 32 c), pv (.int .i64 0), pv (.pointer (some ⟨a_, 0, none⟩)), pv (.slice A1 32 32), pv (.int .i64 0), pv (.int .i64 1), pv (.pointer (some ⟨a_, 1, none⟩)), pv (.slice A2 32 32), pv (.agg #[.bool true, .slice A 32 c, .slice A1 32 32, .slice A2 32 32, .int .i64 0, .int .i64 0])] (by kernel_rfl) (by kernel_rfl) (fun OPS AV AL K w0 hO hA hL hK hb0 hz => ?_); refine step_pv (d := (some 26)) (hO.out 0 _ rfl) rfl rfl (fun wq hw => ?_) ?_
     · clear hO hA hL hK
       go_simp; try first | with_reducible rfl | assumption | decide
     try simp only [qp, qn]
     refine step_pv (d := (some 27)) (hO.out 1 _ rfl) rfl rfl (fun wq hw => ?_) ?_
     · clear hO hA hL hK
       go_simp; try first | with_reducible rfl | assumption | decide
     try simp only [qp, qn]
     refine step_pv (d := (some 28)) (hO.out 2 _ rfl) rfl rfl (fun wq hw => ?_) ?_
     · clear hO hA hL hK
       go_simp; try first | with_reducible rfl | assumption | decide
     try simp only [qp, qn]
     refine step_pv (d := (some 29)) (hO.out 3 _ rfl) rfl rfl (fun wq hw => ?_) ?_
     · clear hO hA hL hK
       go_simp; try first | with_reducible rfl | assumption | decide
     try simp only [qp, qn]
     refine step_pg (d := (some 30)) (hO.out 4 _ rfl) rfl rfl (fun wq hw gt => ?_) ?_
     · have hx : Below wr.heap.size wr wq := hb0.trans (hw.mono hb0.size); have c1 := (HB.out.stays hx).cell 0; clear gt hO hA hL hK
       go_simp; try first | with_reducible rfl | assumption | decide
     try simp only [qp, qn]
     refine step_pv (d := (some 31)) (hO.out 5 _ rfl) rfl rfl (fun wq hw => ?_) ?_
     · clear hO hA hL hK
       go_simp; try first | with_reducible rfl | assumption | decide
     try simp only [qp, qn]
     refine step_pv (d := (some 32)) (hO.out 6 _ rfl) rfl rfl (fun wq hw => ?_) ?_
     · clear hO hA hL hK
       go_simp; try first | with_reducible rfl | assumption | decide
     try simp only [qp, qn]
     refine step_pv (d := (some 33)) (hO.out 7 _ rfl) rfl rfl (fun wq hw => ?_) ?_
     · clear hO hA hL hK
       go_simp; try first | with_reducible rfl | assumption | decide
     try simp only [qp, qn]
     refine step_pg (d := (some 34)) (hO.out 8 _ rfl) rfl rfl (fun wq hw gt => ?_) ?_
     · have hx : Below wr.heap.size wr wq := hb0.trans (hw.mono hb0.size); have c1 := (HB.out.stays hx).cell 1; clear gt hO hA hL hK
       go_simp; try first | with_reducible rfl | assumption | decide
     try simp only [qp, qn]
     refine step_pv (d := (some 35)) (hO.out 9 _ rfl) rfl rfl (fun wq hw => ?_) ?_
     · clear hO hA hL hK
       go_simp; try first | with_reducible rfl | assumption | decide
     try simp only [qp, qn]
     refine fun wq hw gt => hK.out _ _ ?_
     have hx : Below wr.heap.size wr wq := hb0.trans (hw.mono hb0.size); clear gt hO hA hL hK; refine take_store_part (j := 10) rfl rfl (by kernel_rfl) rfl 60 _ _ rfl r_ 0 60 [] chZ [] [.bool true, .slice A 32 c, .slice A1 32 32, .slice A2 32 32, .int .i64 0, .int .i64 0] rfl rfl (HR.out.stays hx) rfl rfl infoCh (by simp [Value.oneCell']) (fun _ _ => trivial) (fun w2 D G => ?_); rw [List.append_nil, List.nil_append] at D; refine wpAnyH_done (by kernel_rfl) ?_ _
     go_wp2_with fail
     refine bodyPost_ret (results_whole rfl _ _ r_ _ _ _ rfl D Tryz.underlying60 rfl infoCh) rfl ⟨A1, A2, rfl, ?_, ?_, ?_⟩
     · exact ((HY1.out.stays hx).kept G (off_block (HY1.out.stays hx) (HR.out.stays hx) rfl))
     · exact ((HY2.out.stays hx).kept G (off_block (HY2.out.stays hx) (HR.out.stays hx) rfl))
     · exact (RW.out.trans (hx.mono RW.out.size)).grown G (RW.out.trans (hx.mono RW.out.size)).size (fun k hk => by cases hk; exact wr_)
    | false =>
     go_upto_region 10 with fail
     refine mono_start (fun _ => True) [pv (.bool false), pv (.slice A 32 c), pv (.int .i64 1), pv (.pointer (some ⟨a_, 1, none⟩)), pv (.slice A2 32 32), pv (.int .i64 1), pv (.int .i64 0), pv (.pointer (some ⟨a_, 0, none⟩)), pv (.slice A1 32 32), pv (.agg #[.bool false, .slice A 32 c, .slice A2 32 32, .slice A1 32 32, .int .i64 0, .int .i64 0])] (by kernel_rfl) (by kernel_rfl) (fun OPS AV AL K w0 hO hA hL hK hb0 hz => ?_); refine step_pv (d := (some 26)) (hO.out 0 _ rfl) rfl rfl (fun wq hw => ?_) ?_
     · clear hO hA hL hK
       go_simp; try first | with_reducible rfl | assumption | decide
     try simp only [qp, qn]
     refine step_pv (d := (some 27)) (hO.out 1 _ rfl) rfl rfl (fun wq hw => ?_) ?_
     · clear hO hA hL hK
       go_simp; try first | with_reducible rfl | assumption | decide
     try simp only [qp, qn]
     refine step_pv (d := (some 28)) (hO.out 2 _ rfl) rfl rfl (fun wq hw => ?_) ?_
     · clear hO hA hL hK
       go_simp; try first | with_reducible rfl | assumption | decide
     try simp only [qp, qn]
     refine step_pv (d := (some 29)) (hO.out 3 _ rfl) rfl rfl (fun wq hw => ?_) ?_
     · clear hO hA hL hK
       go_simp; try first | with_reducible rfl | assumption | decide
     try simp only [qp, qn]
     refine step_pg (d := (some 30)) (hO.out 4 _ rfl) rfl rfl (fun wq hw gt => ?_) ?_
     · have hx : Below wr.heap.size wr wq := hb0.trans (hw.mono hb0.size); have c1 := (HB.out.stays hx).cell 1; clear gt hO hA hL hK
       go_simp; try first | with_reducible rfl | assumption | decide
     try simp only [qp, qn]
     refine step_pv (d := (some 31)) (hO.out 5 _ rfl) rfl rfl (fun wq hw => ?_) ?_
     · clear hO hA hL hK
       go_simp; try first | with_reducible rfl | assumption | decide
     try simp only [qp, qn]
     refine step_pv (d := (some 32)) (hO.out 6 _ rfl) rfl rfl (fun wq hw => ?_) ?_
     · clear hO hA hL hK
       go_simp; try first | with_reducible rfl | assumption | decide
     try simp only [qp, qn]
     refine step_pv (d := (some 33)) (hO.out 7 _ rfl) rfl rfl (fun wq hw => ?_) ?_
     · clear hO hA hL hK
       go_simp; try first | with_reducible rfl | assumption | decide
     try simp only [qp, qn]
     refine step_pg (d := (some 34)) (hO.out 8 _ rfl) rfl rfl (fun wq hw gt => ?_) ?_
     · have hx : Below wr.heap.size wr wq := hb0.trans (hw.mono hb0.size); have c1 := (HB.out.stays hx).cell 0; clear gt hO hA hL hK
       go_simp; try first | with_reducible rfl | assumption | decide
     try simp only [qp, qn]
     refine step_pv (d := (some 35)) (hO.out 9 _ rfl) rfl rfl (fun wq hw => ?_) ?_
     · clear hO hA hL hK
       go_simp; try first | with_reducible rfl | assumption | decide
     try simp only [qp, qn]
     refine fun wq hw gt => hK.out _ _ ?_
     have hx : Below wr.heap.size wr wq := hb0.trans (hw.mono hb0.size); clear gt hO hA hL hK; refine take_store_part (j := 10) rfl rfl (by kernel_rfl) rfl 60 _ _ rfl r_ 0 60 [] chZ [] [.bool false, .slice A 32 c, .slice A2 32 32, .slice A1 32 32, .int .i64 0, .int .i64 0] rfl rfl (HR.out.stays hx) rfl rfl infoCh (by simp [Value.oneCell']) (fun _ _ => trivial) (fun w2 D G => ?_); rw [List.append_nil, List.nil_append] at D; refine wpAnyH_done (by kernel_rfl) ?_ _
     go_wp2_with fail
     refine bodyPost_ret (results_whole rfl _ _ r_ _ _ _ rfl D Tryz.underlying60 rfl infoCh) rfl ⟨A2, A1, rfl, ?_, ?_, ?_⟩
     · exact ((HY2.out.stays hx).kept G (off_block (HY2.out.stays hx) (HR.out.stays hx) rfl))
     · exact ((HY1.out.stays hx).kept G (off_block (HY1.out.stays hx) (HR.out.stays hx) rfl))
     · exact (RW.out.trans (hx.mono RW.out.size)).grown G (RW.out.trans (hx.mono RW.out.size)).size (fun k hk => by cases hk; exact wr_)
end Go.Proofs.YtiemnacoebkalaaGreat
