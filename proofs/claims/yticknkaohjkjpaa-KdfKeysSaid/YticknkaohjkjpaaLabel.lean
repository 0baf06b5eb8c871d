/- kdf.Label and its reference; append to the bytes of a string. -/
import Derived.Test.YticknkaohjkjpaaExp
import Derived.Test.YticknkaohjkjpaaHashK
import Derived.ArgAppend
namespace Go.Proofs.Yticknkaohjkjpaa
open Go.RowKit

theorem below_setCells {B b : Nat} (hB : B ≤ b) : ∀ (vs : List Value) (o : Nat) (a w : World), Below B a w → Below B a (w.setCells b o vs)
  | [], _, _, _, h => h
  | v :: r, o, a, w, h => below_setCells hB r (o + 1) a (w.setCell ⟨b, o, none⟩ v) (h.setCell (p := ⟨b, o, none⟩) hB v)
/-- The cells behind a slice's length are there and not frozen. -/
def Spare (w : World) (b n cap : Nat) : Prop := b < w.heap.size ∧ ∀ j, n ≤ j → j < cap → (w.cell? ⟨b, j, none⟩).isSome = true ∧ w.frozen? ⟨b, j, none⟩ = false
theorem Spare.stays {w w' : World} {b n cap : Nat} (h : Spare w b n cap) (hb : Below w.heap.size w w') : Spare w' b n cap :=
  ⟨Nat.lt_of_lt_of_le h.1 hb.size, fun j h1 h2 => by
    obtain ⟨x, y⟩ := h.2 j h1 h2
    rw [hb.cell (p := ⟨b, j, none⟩) h.1, hb.frozen (p := ⟨b, j, none⟩) h.1]
    exact ⟨x, y⟩⟩
theorem conv_spare (w : World) (e : TypeId) (s : ByteArray) : Spare (Lib.bytesWorld w e s) w.heap.size s.size (grownCap w s.size 0 e) := by
  have hge := grownCap_ge w s.size 0 e
  refine ⟨by rw [Lib.bytesWorld_size]; omega, fun j h1 h2 => ?_⟩
  have hs : (Lib.bytesCells w e s).size = grownCap w s.size 0 e := by
    simp [Lib.bytesCells]; omega
  have hb := Lib.bytesWorld_at_new w e s
  refine ⟨?_, ?_⟩
  · simp [World.cell?, hb, hs, h2]
  · simp [World.frozen?, hb, hs]; omega
section
variable {P : Program} {w : World} {B e b n cap m c2 : Nat} {A2 : Option Addr} {olds news : List Value}
theorem run_append_spare (t ty : TypeId) (i : TypeInfo) (z : Value) (bytes : Nat) (ht : P.underlying t = some (.slice e)) (hi : P.info? e = some i) (hz : i.zero = some z)
    (hsize : i.size = 1) (hby : i.bytes = bytes) (hzs : z.cells.size = 1)
    (hr : Rd w 1 (some ⟨b, 0, none⟩) n cap olds) (hs : Spare w b n cap) (hr2 : Rd w 1 A2 m c2 news) (hm : 0 < m) (h1 : ∀ u ∈ news, u.oneCell' = true)
    (h63 : n + m ≤ maxLen) (hbytes : (n + m) * bytes ≤ 140737488355328) (hB : B ≤ b) :
    ∃ A' c' w', (Builtin.append_ #[t, t] ty #[.slice (some ⟨b, 0, none⟩) n cap, .slice A2 m c2]).run P w = .ok (.slice A' (n + m) c') w' ∧ Rd w' 1 A' (n + m) c' (olds ++ news) ∧ Below B w w' := by
  have hbw := hs.1
  have hlo : olds.length = n := by have := hr.1; omega
  have hln : news.length = m := by have := hr2.1; omega
  have holds : ∀ j u, olds[j]? = some u → w.cell? ⟨b, j, none⟩ = some u := fun j u hu => by
    obtain ⟨b', off', e', hc⟩ := hr.2.2.2 j u hu
    simp only [Option.some.injEq, Addr.mk.injEq, and_true] at e'
    obtain ⟨rfl, rfl⟩ := e'
    rwa [Nat.zero_add] at hc
  obtain ⟨b2, off2, rfl, _⟩ := hr2.2.2.2 0 (news[0]'(by omega)) (List.getElem?_eq_getElem (by omega))
  have hnews : ∀ j u, news[j]? = some u → w.cell? ((⟨b2, off2, none⟩ : Addr).add j) = some u := fun j u hu => by
    obtain ⟨b', off', e', hc⟩ := hr2.2.2.2 j u hu
    simp only [Option.some.injEq, Addr.mk.injEq, and_true] at e'
    obtain ⟨rfl, rfl⟩ := e'
    rw [add_off]; exact hc
  by_cases hroom : n + m ≤ cap
  · have hsp : ∀ j, j < news.length → (w.cell? ⟨b, 0 + n * i.size + j, none⟩).isSome = true ∧ w.frozen? ⟨b, 0 + n * i.size + j, none⟩ = false := fun j hj => by
      rw [hsize, Nat.mul_one, Nat.zero_add]
      exact hs.2 (n + j) (by omega) (by omega)
    have := run_append_room_cells (P := P) w t ty e i ht hi b 0 n cap ⟨b2, off2, none⟩ m c2 news (by rw [hsize]; omega) hnews h1 hroom (fun j hj => (hsp j hj).1) (fun j hj => (hsp j hj).2)
    refine ⟨_, _, _, this, ⟨by rw [List.length_append]; omega, hroom, hr.2.2.1, fun j u hu => ⟨b, 0, rfl, ?_⟩⟩, below_setCells hB _ _ _ _ (Below.refl _ _)⟩
    rw [hsize, Nat.mul_one, Nat.zero_add, Nat.zero_add]
    by_cases hj : j < n
    · rw [List.getElem?_append_left (by omega)] at hu
      rw [World.cell?_setCells_out b news n w ⟨b, j, none⟩ (fun _ _ => .inl hj)]
      exact holds j u hu
    · rw [List.getElem?_append_right (by omega), hlo] at hu
      have hjl : j - n < news.length := by
        rcases Nat.lt_or_ge (j - n) news.length with h | h
        · exact h
        · rw [List.getElem?_eq_none h] at hu; cases hu
      have := World.cell?_setCells_in b news n w (fun k hk => (hs.2 (n + k) (by omega) (by omega)).1) (j - n) hjl
      rw [show n + (j - n) = j by omega] at this
      rw [this, ← hu, List.getElem?_eq_getElem hjl]
  · obtain ⟨v', w', hrun, hown, hg⟩ := run_append_arg_grows (P := P) w t ty e i z 1 bytes ht hi hz hsize hby hzs (by decide) ⟨b, 0, none⟩ n cap olds (by omega) (fun j u hu => by rw [add_off, Nat.zero_add]; exact holds j u hu) ⟨b2, off2, none⟩ m c2 news (by omega) hnews (by omega) h63 hbytes
    obtain ⟨A', c', rfl⟩ := own_form hown
    exact ⟨A', c', w', hrun, own_rd hown, (Below.refl B w).grown hg (by omega) (fun k hk => by cases hk)⟩
theorem wpList_append_spare {ops : Array Oper} {rest : List Oper} {o : Oper} {a : Act} {Q : Exit → Act → World → Prop} (hgd : o.guard = none) (s x : Operand) (t : TypeId)
    (ho : o.op = .call { callee := .builtin .append, args := #[s, x], argTypes := #[t, t] })
    (i : TypeInfo) (z : Value) (bytes : Nat) (ht : P.underlying t = some (.slice e)) (hi : P.info? e = some i) (hz : i.zero = some z)
    (hsize : i.size = 1) (hby : i.bytes = bytes) (hzs : z.cells.size = 1)
    (hs : a.eval s = .slice (some ⟨b, 0, none⟩) n cap) (hr : Rd w 1 (some ⟨b, 0, none⟩) n cap olds) (hsp : Spare w b n cap) (hx : a.eval x = .slice A2 m c2) (hr2 : Rd w 1 A2 m c2 news) (hm : 0 < m) (h1 : ∀ u ∈ news, u.oneCell' = true)
    (h63 : n + m ≤ maxLen) (hbytes : (n + m) * bytes ≤ 140737488355328) (hB : B ≤ b)
    (h : ∀ A' c' w', Rd w' 1 A' (n + m) c' (olds ++ news) → Below B w w' → wpList P ops Q rest (a.put o.dst (.slice A' (n + m) c')) w') : wpList P ops Q (o :: rest) a w := by
  obtain ⟨A', c', w', hrun, h2, h3⟩ := run_append_spare (P := P) t o.type i z bytes ht hi hz hsize hby hzs hr hsp hr2 hm h1 h63 hbytes hB
  exact Lib.wpList_append_run w hgd s x t t ho _ _ hs hx _ _ hrun (h A' c' w' h2 h3)
end
theorem toList_cat (a b : ByteArray) : (a ++ b).data.toList = a.data.toList ++ b.data.toList := by simp
set_option maxRecDepth 100000 in
set_option maxHeartbeats 8000000 in
theorem label_any (p q : ByteArray) (l : List UInt8) (A : Option Addr) (n c : Nat) (w : World) (hb : Bytes w A n c l) (hp : p.size ≤ 1000) (hq : q.size ≤ 1000) :
    Calls Try.prog 30 #[.string p, .string q, .slice A n c] w fun e w' => ∃ A' c', e = .returned (.slice A' (p.size + q.size + 34) c') ∧ Bytes w' A' (p.size + q.size + 34) c' (labelL p.data.toList q.data.toList l) ∧ Below w.heap.size w w' := by
  obtain ⟨i0, hi, hz0, hz1, hz2⟩ := info_parts infoByteA
  have BB := Lib.hid hb
  have q1 := hb.le
  have q2 := hb.cap
  clear hb
  have hcv := fun (s : ByteArray) (W : World) => Lib.run_convert_string_bytes (P := Try.prog) W 9 22 5 s Try.underlying9 Try.underlying22 Try.underlying5
  go_enter Try.func30, Try.ntmps30
  go_wp2_with fail
  refine (sum_any _ _ _ _ _ (BB.out.stays (conv_below _ _ _))).mono ?_
  rintro e w1 ⟨A1, c1, rfl, hv, hb⟩
  obtain ⟨S, hS⟩ : ∃ S : ByteArray, S = p ++ ⟨#[0]⟩ ++ q ++ ⟨#[0]⟩ := ⟨_, rfl⟩
  rw [← hS] at hb
  have hsz : S.size = p.size + 1 + q.size + 1 := by rw [hS]; simp; rfl
  have hl : S.data.toList ++ sumL l = labelL p.data.toList q.data.toList l := by rw [hS]; simp [labelL]
  have hr1 := (conv_reads w 5 S (by rw [hsz]; unfold maxLen; omega)).stays hb
  have hr2 := (conv_spare w 5 S).stays hb
  rw [hsz] at hr1 hr2
  have R1 : Below w.heap.size w w1 := (conv_below w 5 S).trans (hb.mono (by rw [Lib.bytesWorld_size]; omega))
  have H1 := Lib.hid hr1
  have H2 := Lib.hid hr2
  have H3 := Lib.hid (own_rd hv)
  have HL := Lib.hid hl
  clear hv hb hS hsz hl hr1 hr2 hcv
  go_wp2_with (at_builtin; refine wpList_append_spare (B := w.heap.size) rfl _ _ 22 rfl i0 (.int .u8 0) 1 Try.underlying22 hi hz0 hz1 hz2 rfl rfl H1.out H2.out rfl H3.out (by decide) (oneCell_bytes _) ?c1 ?c2 (Nat.le_refl _) ?_)
  case c1 => unfold maxLen; omega
  case c2 => omega
  intro A8 c8 w8 hr8 hb8
  have H8 := Lib.hid hr8
  have R8 := R1.trans hb8
  clear hr8 hb8
  go_wp2
  go_ret
  have e0 : p.size + q.size + 34 = p.size + 1 + q.size + 1 + 32 := by omega
  rw [e0, ← HL.out]
  refine ⟨A8, c8, rfl, ?_, R8⟩
  unfold Bytes
  rw [List.map_append]
  exact H8.out

set_option maxRecDepth 100000 in
set_option maxHeartbeats 8000000 in
theorem refLabel_any (p q : ByteArray) (l : List UInt8) (A : Option Addr) (n c : Nat) (w : World) (hb : Bytes w A n c l) (hp : p.size ≤ 1000) (hq : q.size ≤ 1000) :
    Calls Try.prog 36 #[.string p, .string q, .slice A n c] w fun e w' => ∃ A' c', e = .returned (.slice A' (p.size + q.size + 34) c') ∧ Bytes w' A' (p.size + q.size + 34) c' (labelL p.data.toList q.data.toList l) ∧ Below w.heap.size w w' := by
  have BB := Lib.hid hb
  have q1 := hb.le
  have q2 := hb.cap
  clear hb
  have hcv := fun (s : ByteArray) (W : World) => Lib.run_convert_string_bytes (P := Try.prog) W 9 22 5 s Try.underlying9 Try.underlying22 Try.underlying5
  go_enter Try.func36, Try.ntmps36
  go_wp2_with fail
  clear hcv
  have k1 := conv_below w 5 p
  have f1 := conv_reads w 5 p (by unfold maxLen; omega)
  generalize Lib.bytesWorld w 5 p = W1 at *
  have k2 : Below W1.heap.size W1 (W1.alloc (.cells #[.int .u8 0] 5)) := (Below.refl _ _).alloc (Nat.le_refl _) _
  have f2 := bytes_lit (w := W1) (E := 5) (n := 1) [0] #[.int .u8 0] rfl rfl (by decide)
  have k3 := conv_below (W1.alloc (.cells #[.int .u8 0] 5)) 5 q
  have f3 := conv_reads (W1.alloc (.cells #[.int .u8 0] 5)) 5 q (by unfold maxLen; omega)
  have f1 := (f1.stays k2).stays k3
  have f2 := f2.stays k3
  have hs1 := k1.size
  have hs3 := k3.size
  have k13 : Below w.heap.size w (Lib.bytesWorld (W1.alloc (.cells #[.int .u8 0] 5)) 5 q) := (k1.trans (k2.mono hs1)).trans (k3.mono (by simp; omega))
  generalize Lib.bytesWorld (W1.alloc (.cells #[.int .u8 0] 5)) 5 q = W3 at *
  generalize grownCap w p.size 0 5 = cp at *
  generalize grownCap (W1.alloc (.cells #[.int .u8 0] 5)) q.size 0 5 = cq at *
  rw [show (W1.alloc (.cells #[.int .u8 0] 5)).heap.size = W1.heap.size + 1 by simp] at f3
  have k4 : Below W3.heap.size W3 (W3.alloc (.cells #[.int .u8 0] 5)) := (Below.refl _ _).alloc (Nat.le_refl _) _
  have f4 := bytes_lit (w := W3) (E := 5) (n := 1) [0] #[.int .u8 0] rfl rfl (by decide)
  have hs4 := k13.size
  have F1 := Lib.hid (f1.stays k4)
  have F2 := Lib.hid (f2.stays k4)
  have F3 := Lib.hid (f3.stays k4)
  have F4 := Lib.hid f4
  have k14 := k13.trans (k4.mono hs4)
  have BB := Lib.hid (BB.out.stays k14)
  have K := Lib.hid k14
  have hsK := k14.size
  clear k1 f1 k2 f2 k3 f3 f4 k13 k14 hs1 hs3 hs4 k4
  refine (refSum_any _ _ _ _ _ BB.out).mono ?_
  rintro e w1 ⟨A1, c1, rfl, hv, hb⟩
  have F1 := Lib.hid (F1.out.stays hb)
  have F2 := Lib.hid (F2.out.stays hb)
  have F3 := Lib.hid (F3.out.stays hb)
  have F4 := Lib.hid (F4.out.stays hb)
  have V1 : Hid (Bytes w1 A1 32 c1 (sumL l)) := own_rd hv
  have R1 := Lib.hid (K.out.trans (hb.mono hsK))
  have hs1 := R1.out.size
  clear hv hb K hsK BB
  have lp : p.data.toList.length = p.size := Array.length_toList
  have lq : q.data.toList.length = q.size := Array.length_toList
  go_wp2_with fail
  refine (refJoin_any _ _ _ [p.data.toList, [0], q.data.toList, [0], sumL l] _ (lists_made5 F1.out F2.out F3.out F4.out V1.out) (p.size + q.size + 34) (by simp only [List.flatten_cons, List.flatten_nil, List.length_append, sumL_length, lp, lq, List.length_cons, List.length_nil]; omega) (by omega)).mono ?_
  rintro e w2 ⟨A2, c2, rfl, hv, hb⟩
  have hbx : Below w1.heap.size w1 w2 := below_via (by go_grown) hb (by first | (simp; done) | (simp; omega))
  have R2 := R1.out.trans (hbx.mono hs1)
  have V2 : Hid (Bytes w2 A2 (p.size + q.size + 34) c2 (labelL p.data.toList q.data.toList l)) := by
    have := own_rd hv
    have e0 : [p.data.toList, [0], q.data.toList, [0], sumL l].flatten = labelL p.data.toList q.data.toList l := by simp [labelL]
    rw [e0] at this
    exact this
  clear hv hb hbx
  go_wp2
  go_ret
  exact ⟨_, _, rfl, V2.out, R2⟩
end Go.Proofs.Yticknkaohjkjpaa
