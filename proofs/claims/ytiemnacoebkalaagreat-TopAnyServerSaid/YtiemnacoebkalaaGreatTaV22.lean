import Derived.Lib.Strings
import Derived.Lib.Slices
import Derived.Lib.Walk
import Derived.Lib.Builder
import Derived.Lib.UnsafeStr
import Derived.Laws.Externs
import Derived.Lib.SlBytesConst
import Derived.ArgAppend
import Derived.Test.YtiemnacoebkalaaGreatTaV19
set_option linter.all false
set_option maxRecDepth 100000
set_option maxHeartbeats 4000000
namespace Go.Proofs.YtiemnacoebkalaaGreat
open Go.RowKit
theorem bytes_lit {w : World} {E n : Nat} (l : List UInt8) (vs : Array Value) (hv : vs = (l.map byteV).toArray) (hn : l.length = n) (hm : n <= maxLen) : Bytes (w.alloc (.cells vs E)) (some ⟨w.heap.size, 0, none⟩) n n l := by
 subst hv hn; exact Bytes.made hm
theorem below_setCells {B b : Nat} (hB : B <= b) : ∀ (vs : List Value) (o : Nat) (a w : World), Below B a w -> Below B a (w.setCells b o vs)
 | [], _, _, _, h => h
 | v :: r, o, a, w, h => below_setCells hB r (o + 1) a (w.setCell ⟨b, o, none⟩ v) (h.setCell (p := ⟨b, o, none⟩) hB v)
def Spare (w : World) (b n cap : Nat) : Prop := b < w.heap.size ∧ ∀ j, n <= j -> j < cap -> (w.cell? ⟨b, j, none⟩).isSome = true ∧ w.frozen? ⟨b, j, none⟩ = false
theorem Spare.stays {w w' : World} {b n cap : Nat} (h : Spare w b n cap) (hb : Below w.heap.size w w') : Spare w' b n cap :=
 ⟨Nat.lt_of_lt_of_le h.1 hb.size, fun j h1 h2 => by
  obtain ⟨x, y⟩ := h.2 j h1 h2; rw [hb.cell (p := ⟨b, j, none⟩) h.1, hb.frozen (p := ⟨b, j, none⟩) h.1]; exact ⟨x, y⟩⟩
instance {w w' : World} {b n cap : Nat} : QStay (Spare w b n cap) w w' (Spare w' b n cap) := ⟨fun h hb => Spare.stays h hb⟩
theorem conv_spare (w : World) (e : TypeId) (s : ByteArray) : Spare (Lib.bytesWorld w e s) w.heap.size s.size (grownCap w s.size 0 e) := by
 have hge := grownCap_ge w s.size 0 e; refine ⟨by rw [Lib.bytesWorld_size]; omega, fun j h1 h2 => ?_⟩; have hs : (Lib.bytesCells w e s).size = grownCap w s.size 0 e := by
  simp [Lib.bytesCells]; omega
 have hb := Lib.bytesWorld_at_new w e s; refine ⟨?_, ?_⟩
 · simp [World.cell?, hb, hs, h2]
 · simp [World.frozen?, hb, hs]; omega
section
variable {P : Program} {w : World} {B e b n cap m c2 : Nat} {A2 : Option Addr} {olds news : List Value}
theorem run_append_spare (t ty : TypeId) (i : TypeInfo) (z : Value) (bytes : Nat) (ht : P.underlying t = some (.slice e)) (hi : P.info? e = some i) (hz : i.zero = some z)
    (hsize : i.size = 1) (hby : i.bytes = bytes) (hzs : z.cells.size = 1)
    (hr : Rd w 1 (some ⟨b, 0, none⟩) n cap olds) (hs : Spare w b n cap) (hr2 : Rd w 1 A2 m c2 news) (hm : 0 < m) (h1 : ∀ u ∈ news, u.oneCell' = true)
    (h63 : n + m <= maxLen) (hbytes : (n + m) * bytes <= 140737488355328) (hB : B <= b) :
    ∃ A' c' w', (Builtin.append_ #[t, t] ty #[.slice (some ⟨b, 0, none⟩) n cap, .slice A2 m c2]).run P w = .ok (.slice A' (n + m) c') w' ∧ Rd w' 1 A' (n + m) c' (olds ++ news) ∧ Below B w w' := by
 have hbw := hs.1; have hlo : olds.length = n := by have := hr.1; omega
 have hln : news.length = m := by have := hr2.1; omega
 have holds : ∀ j u, olds[j]? = some u -> w.cell? ⟨b, j, none⟩ = some u := fun j u hu => by
  obtain ⟨b', off', e', hc⟩ := hr.2.2.2 j u hu; simp only [Option.some.injEq, Addr.mk.injEq, and_true] at e'; obtain ⟨rfl, rfl⟩ := e'
  rwa [Nat.zero_add] at hc
 obtain ⟨b2, off2, rfl, _⟩ := hr2.2.2.2 0 (news[0]'(by omega)) (List.getElem?_eq_getElem (by omega)); have hnews : ∀ j u, news[j]? = some u -> w.cell? ((⟨b2, off2, none⟩ : Addr).add j) = some u := fun j u hu => by
  obtain ⟨b', off', e', hc⟩ := hr2.2.2.2 j u hu; simp only [Option.some.injEq, Addr.mk.injEq, and_true] at e'; obtain ⟨rfl, rfl⟩ := e'; rw [add_off]; exact hc
 by_cases hroom : n + m <= cap
 · have hsp : ∀ j, j < news.length -> (w.cell? ⟨b, 0 + n * i.size + j, none⟩).isSome = true ∧ w.frozen? ⟨b, 0 + n * i.size + j, none⟩ = false := fun j hj => by
     rw [hsize, Nat.mul_one, Nat.zero_add]; exact hs.2 (n + j) (by omega) (by omega)
   have := run_append_room_cells (P := P) w t ty e i ht hi b 0 n cap ⟨b2, off2, none⟩ m c2 news (by rw [hsize]; omega) hnews h1 hroom (fun j hj => (hsp j hj).1) (fun j hj => (hsp j hj).2); refine ⟨_, _, _, this, ⟨by rw [List.length_append]; omega, hroom, hr.2.2.1, fun j u hu => ⟨b, 0, rfl, ?_⟩⟩, below_setCells hB _ _ _ _ (Below.refl _ _)⟩; rw [hsize, Nat.mul_one, Nat.zero_add, Nat.zero_add]
   by_cases hj : j < n
   · rw [List.getElem?_append_left (by omega)] at hu; rw [World.cell?_setCells_out b news n w ⟨b, j, none⟩ (fun _ _ => .inl hj)]; exact holds j u hu
   · rw [List.getElem?_append_right (by omega), hlo] at hu; have hjl : j - n < news.length := by
      rcases Nat.lt_or_ge (j - n) news.length with h | h
      · exact h
      · rw [List.getElem?_eq_none h] at hu; cases hu
     have := World.cell?_setCells_in b news n w (fun k hk => (hs.2 (n + k) (by omega) (by omega)).1) (j - n) hjl; rw [show n + (j - n) = j by omega] at this; rw [this, <- hu, List.getElem?_eq_getElem hjl]
 · obtain ⟨v', w', hrun, hown, hg⟩ := run_append_arg_grows (P := P) w t ty e i z 1 bytes ht hi hz hsize hby hzs (by decide) ⟨b, 0, none⟩ n cap olds (by omega) (fun j u hu => by rw [add_off, Nat.zero_add]; exact holds j u hu) ⟨b2, off2, none⟩ m c2 news (by omega) hnews (by omega) h63 hbytes; obtain ⟨A', c', rfl⟩ := own_form hown; exact ⟨A', c', w', hrun, own_rd hown, (Below.refl B w).grown hg (by omega) (fun k hk => by cases hk)⟩
theorem wpList_append_spare {ops : Array Oper} {rest : List Oper} {o : Oper} {a : Act} {Q : Exit -> Act -> World -> Prop} (hgd : o.guard = none) (s x : Operand) (t : TypeId)
    (ho : o.op = .call { callee := .builtin .append, args := #[s, x], argTypes := #[t, t] })
    (i : TypeInfo) (z : Value) (bytes : Nat) (ht : P.underlying t = some (.slice e)) (hi : P.info? e = some i) (hz : i.zero = some z)
    (hsize : i.size = 1) (hby : i.bytes = bytes) (hzs : z.cells.size = 1)
    (hs : a.eval s = .slice (some ⟨b, 0, none⟩) n cap) (hr : Rd w 1 (some ⟨b, 0, none⟩) n cap olds) (hsp : Spare w b n cap) (hx : a.eval x = .slice A2 m c2) (hr2 : Rd w 1 A2 m c2 news) (hm : 0 < m) (h1 : ∀ u ∈ news, u.oneCell' = true)
    (h63 : n + m <= maxLen) (hbytes : (n + m) * bytes <= 140737488355328) (hB : B <= b)
    (h : ∀ A' c' w', Rd w' 1 A' (n + m) c' (olds ++ news) -> Below B w w' -> wpList P ops Q rest (a.put o.dst (.slice A' (n + m) c')) w') : wpList P ops Q (o :: rest) a w := by
 obtain ⟨A', c', w', hrun, h2, h3⟩ := run_append_spare (P := P) t o.type i z bytes ht hi hz hsize hby hzs hr hsp hr2 hm h1 h63 hbytes hB; exact Lib.wpList_append_run w hgd s x t t ho _ _ hs hx _ _ hrun (h A' c' w' h2 h3)
end
set_option maxHeartbeats 8000000 in
theorem label_any (p q : ByteArray) (l : List UInt8) (A : Option Addr) (n c : Nat) (w : World) (hb : Bytes w A n c l) (hp : p.size <= 1000) (hq : q.size <= 1000) :
    Calls Tryz.prog 106 #[.string p, .string q, .slice A n c] w fun e w' => ∃ A' c', e = .returned (.slice A' (p.size + q.size + 34) c') ∧ Bytes w' A' (p.size + q.size + 34) c' (labelL p.data.toList q.data.toList l) ∧ Below w.heap.size w w' := by
 obtain ⟨i0, hi, hz0, hz1, hz2⟩ := info_parts infoByteA; have BB := qq hb; have q1 := hb.le; have q2 := hb.cap; clear hb; have hcv := fun (s : ByteArray) (W : World) => Lib.run_convert_string_bytes (P := Tryz.prog) W 9 27 5 s Tryz.underlying9 Tryz.underlying27 Tryz.underlying5
 go_enter Tryz.func106, Tryz.ntmps106
 go_wp2_with fail
 refine (sum_any _ _ _ _ _ (BB.out.stays (conv_below _ _ _))).mono ?_; rintro e w1 ⟨A1, c1, rfl, hv, hb⟩; obtain ⟨S, hS⟩ : ∃ S : ByteArray, S = p ++ ⟨#[0]⟩ ++ q ++ ⟨#[0]⟩ := ⟨_, rfl⟩; rw [<- hS] at hb; have hsz : S.size = p.size + 1 + q.size + 1 := by rw [hS]; simp; rfl
 have hl : S.data.toList ++ sumL l = labelL p.data.toList q.data.toList l := by rw [hS]; simp [labelL]
 have hr1 := (conv_reads w 5 S (by rw [hsz]; unfold maxLen; omega)).stays hb; have hr2 := (conv_spare w 5 S).stays hb; rw [hsz] at hr1 hr2; have R1 : Below w.heap.size w w1 := (conv_below w 5 S).trans (hb.mono (by rw [Lib.bytesWorld_size]; omega)); have H1 := qq hr1; have H2 := qq hr2; have H3 := qq (own_rd hv); have HL := qq hl; clear hv hb hS hsz hl hr1 hr2 hcv
 go_wp2_with (at_builtin; refine wpList_append_spare (B := w.heap.size) rfl _ _ 27 rfl i0 (.int .u8 0) 1 Tryz.underlying27 hi hz0 hz1 hz2 rfl rfl H1.out H2.out rfl H3.out (by decide) (oneCell_bytes _) ?c1 ?c2 (Nat.le_refl _) ?_)
 case c1 => unfold maxLen; omega
 case c2 => omega
 intro A8 c8 w8 hr8 hb8; have H8 := qq hr8; have R8 := R1.trans hb8; clear hr8 hb8; go_wp2; go_ret; have e0 : p.size + q.size + 34 = p.size + 1 + q.size + 1 + 32 := by omega
 rw [e0, <- HL.out]; refine ⟨A8, c8, rfl, ?_, R8⟩; unfold Bytes; rw [List.map_append]; exact H8.out

theorem refExpand_any (key info : List UInt8) (A : Option Addr) (nk c : Nat) (A2 : Option Addr) (ni c2 n : Nat) (w : World) (hk : Bytes w A nk c key) (hi2 : Bytes w A2 ni c2 info) (hni : ni <= 100000) (hn : n <= 8000) :
    Calls Tryz.prog 61 #[.slice A nk c, .slice A2 ni c2, .int .i64 n] w fun e w' => ∃ A' c', e = .returned (.tuple #[.slice A' n c', .int .i64 0]) ∧ Bytes w' A' n c' (expandL key info n) ∧ Below w.heap.size w w' := by
 obtain ⟨i0, hi, hz0, hz1, hz2⟩ := info_parts infoByteA; have KB := qq hk; have IB := qq hi2; have q1 := hk.le; have q2 := hk.cap; have q3 := hi2.le; have q4 := hi2.cap; clear hk hi2
 go_enter Tryz.func61, Tryz.ntmps61
 go_wp2
 go_loopw [8, 9, 10] (fun o l i wr => ∃ (j mo co ml cl : Nat) (AO AL : Option Addr), 32 * j <= n + 31 ∧ o = .slice AO mo co ∧ l = .slice AL ml cl ∧ i = .int .i64 ((j : Int) + 1) ∧ Hid (mo = 32 * j) ∧ ml <= 32 ∧
     Hid (wr.ownsRow w.heap.size 5 1 (.slice AO mo co) mo ((outE key info j).map byteV)) ∧ Hid (wr.ownsRow w.heap.size 5 1 (.slice AL ml cl) ml ((lastE key info j).map byteV)) ∧
     Hid (Apart (.slice AO mo co) (.slice AL ml cl)) ∧ Below w.heap.size w wr) (fun _ _ i _ => n + 32 - 32 * (intOf i).toNat)
 case atStart =>
  have h1 := World.ownsRow_lit (base := w.heap.size) (e := 5) (size := 1) w #[] 0 (Nat.le_refl _) (by decide) rfl; have h2 := World.ownsRow_lit (base := w.heap.size) (e := 5) (size := 1) (w.alloc (.cells #[] 5)) #[] 0 (by simp) (by decide) rfl; refine ⟨0, 0, 0, 0, 0, _, _, by omega, rfl, rfl, rfl, rfl, by omega, own_alloc h1 _, ?_, qq (fun k hk hv => ?_), by go_grown⟩
  · simpa [Hid, lastE] using h2
  · simp [Value.ownBlock] at hk hv; omega
 case round =>
  obtain ⟨j, mo, co, ml, cl, AO, AL, hj, rfl, rfl, rfl, hm, hml, HO, HL, HA, hbr⟩ := hrel; have hsr := hbr.size
  by_cases hmn : mo < n
  · have hmi : (mo : Int) < (n : Int) := by omega
    have hj5 : j <= 300 := by have := hm.out; omega
    have IBr := qs IB hbr; have KBr := qs KB hbr; have hcb : [UInt8.ofNat (j + 1)].map byteV = [Value.int .u8 ((j : Int) + 1)] := by
     have h := cnt_byte (j + 1) (by omega); rw [Int.natCast_add] at h; rw [List.map_cons, List.map_nil, <- h]
     rfl
    have f3 := bytes_lit (w := wr) (E := 5) (n := 1) [UInt8.ofNat (j + 1)] #[.int .u8 ((j : Int) + 1)] (by rw [hcb]) rfl (by decide); have kk : Below wr.heap.size wr (wr.alloc (.cells #[.int .u8 ((j : Int) + 1)] 5)) := (Below.refl _ _).alloc (Nat.le_refl _) _; have f1 : Bytes wr AL ml cl (lastE key info j) := own_rd HL.out; have F1 := qq (f1.stays kk); have F2 := qs IBr kk; have F3 := qq f3; have l1 := f1.len; have l2 := IBr.out.len; obtain ⟨X, hX⟩ : ∃ X, X = lastE key info j ++ info ++ [UInt8.ofNat (j + 1)] := ⟨_, rfl⟩; have HX : Hid (lastE key info (j + 1) = macL key X) := by unfold Hid; rw [lastE, hX]
    have HX2 : Hid ([lastE key info j, info, [UInt8.ofNat (j + 1)]].flatten = X) := by unfold Hid; rw [hX]; simp only [List.flatten_cons, List.flatten_nil, List.append_nil, List.append_assoc]
    have HX3 : Hid ([lastE key info j, info, [UInt8.ofNat (j + 1)]].flatten.length = ml + ni + 1) := by unfold Hid; rw [HX2.out, hX]; simp only [List.length_append, l1, l2, List.length_cons, List.length_nil]
    have hL := lists_made3 (E := 27) F1.out F2.out F3.out; rw [show (wr.alloc (.cells #[.int .u8 ((j : Int) + 1)] 5)).heap.size = wr.heap.size + 1 by simp] at hL; have HLL := qq hL; clear hcb hX f1 f3 kk l1 l2 HL hL
    go_wp2_with fail
    refine (refJoin_any _ _ _ [lastE key info j, info, [UInt8.ofNat (j + 1)]] _ HLL.out (ml + ni + 1) HX3.out (by omega)).mono ?_; rintro e wq ⟨Aq, cq, rfl, hv, hb⟩; have hbx : Below wr.heap.size wr wq := below_via (by go_grown) hb (by first | (simp; done) | (simp; omega)); have OQ := qq (own_below HO.out hbx); have KBq := qs KBr hbx; have Rq := hbr.trans (hbx.mono hsr); have hsq := Rq.size; have hsqr := hbx.size; have HOlt : Hid (∀ k, (Value.slice AO mo co).ownBlock = some k -> k < wr.heap.size) := fun k hk => (HO.out.lt k hk).2
    have BQ : Hid (Bytes wq Aq (ml + ni + 1) cq X) := by
     have := own_rd hv; rw [HX2.out] at this; exact this
    clear hv hb hbx HO HA IBr KBr F1 F2 F3 HX2 HX3 HLL
    go_wp2_with fail
    refine (refMac_any _ _ _ _ _ _ _ _ _ KBq.out BQ.out (by omega)).mono ?_; rintro e ws ⟨As, cs, rfl, hv, hb⟩; have OS := qq (own_below OQ.out hb); have HS := qq hv; have Rs := Rq.trans (hb.mono hsq); have hss := Rs.size; have hAs : Hid (Apart (.slice As 32 cs) (.slice AO mo co)) := (Apart.of_below (B := wq.heap.size) (fun k hk => Nat.lt_of_lt_of_le (HOlt.out k hk) (by omega)) (fun k hk => (HS.out.lt k hk).1)).symm; clear hv hb OQ KBq BQ
    go_wp2_with (at_builtin; refine wpList_append_rd2 rfl _ _ 27 rfl i0 (.int .u8 0) 1 Tryz.underlying27 hi hz0 hz1 hz2 rfl (by decide) rfl OS.out rfl (own_rd HS.out) (oneCell_bytes _) ?c1 ?c2 ?c3 ?_)
    case c1 => unfold maxLen; omega
    case c2 => omega
    case c3 => first | omega | (simp; omega)
    intro At ct wt hownt hgt hbt hot; have OT : Hid (wt.ownsRow w.heap.size 5 1 (.slice At (mo + 32) ct) (mo + 32) ((outE key info (j + 1)).map byteV)) := by
     unfold Hid; rw [outE, List.map_append, HX.out]; exact hownt
    have HT : Hid (wt.ownsRow w.heap.size 5 1 (.slice As 32 cs) 32 ((lastE key info (j + 1)).map byteV)) := by
     unfold Hid; rw [HX.out]; exact own_more (B' := w.heap.size) (HS.out.kept hgt hAs.out.kept) hsq
    have HAT : Hid (Apart (.slice At (mo + 32) ct) (.slice As 32 cs)) := (hAs.out.grew (fun k hk => (HS.out.lt k hk).2) hot).symm; have Rt := Rs.trans hbt; clear hownt hgt hbt hot OS HS hAs Rs; go_wp2
    go_roundw
    case rel => exact ⟨j + 1, mo + 32, ct, 32, cs, At, As, by have := hm.out; omega, rfl, rfl, by go_num, by have := hm.out; unfold Hid; omega, by omega, OT, HT, HAT, Rt⟩
    case measure => have := hm.out; simp [intOf]; omega
  · have hmi : ¬ (mo : Int) < (n : Int) := by omega
    have hr : Bytes wr AO mo co (outE key info j) := own_rd HO.out; have q5 := hr.le; have q6 := hr.cap; have hcut := hr.cut0 n (by omega); rw [expandL_of key info n j (by have := hm.out; omega)] at hcut; have HC := qq hcut; clear hcut hr; go_wp2
    go_returns
    exact ⟨_, _, rfl, HC.out, hbr⟩

theorem refExtract_any (k b : List UInt8) (A : Option Addr) (n c : Nat) (A2 : Option Addr) (n2 c2 : Nat) (w : World) (hk : Bytes w A n c k) (hb : Bytes w A2 n2 c2 b) (hn2 : n2 <= 1000000) :
    Calls Tryz.prog 103 #[.slice A n c, .slice A2 n2 c2] w fun e w' => ∃ A' c', e = .returned (.slice A' 32 c') ∧ Bytes w' A' 32 c' (macL k b) ∧ Below w.heap.size w w' := by
 have KB := qq hk; have BB := qq hb; clear hk hb
 go_enter Tryz.func103, Tryz.ntmps103
 go_wp2_with fail
 refine (refMac_any _ _ _ _ _ _ _ _ _ KB.out BB.out (by omega)).mono ?_; rintro e w1 ⟨A1, c1, rfl, hv, hb⟩; have V1 : Hid (Bytes w1 A1 32 c1 (macL k b)) := own_rd hv; clear hv; go_wp2; go_ret; exact ⟨_, _, rfl, V1.out, hb⟩
end Go.Proofs.YtiemnacoebkalaaGreat
