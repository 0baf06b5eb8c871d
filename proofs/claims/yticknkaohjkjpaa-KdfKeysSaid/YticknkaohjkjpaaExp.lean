/- kdf.Expand and its reference. -/
import Derived.Test.YticknkaohjkjpaaMac
import Derived.Test.YticknkaohjkjpaaRefMac
namespace Go.Proofs.Yticknkaohjkjpaa
open Go.RowKit

section
variable {P : Program} {w : World} {B e size n c m c2 : Nat} {A A2 : Option Addr} {xs news : List Value}
theorem wpList_append_rd2 {ops : Array Oper} {rest : List Oper} {o : Oper} {a : Act} {Q : Exit → Act → World → Prop} (hgd : o.guard = none) (s x : Operand) (t : TypeId)
    (ho : o.op = .call { callee := .builtin .append, args := #[s, x], argTypes := #[t, t] })
    (i : TypeInfo) (z : Value) (bytes : Nat) (ht : P.underlying t = some (.slice e)) (hi : P.info? e = some i) (hz : i.zero = some z)
    (hsize : i.size = size) (hby : i.bytes = bytes) (hzs : z.cells.size = size) (hsz : 0 < size)
    (hs : a.eval s = .slice A n c) (hown : w.ownsRow B e size (.slice A n c) n xs) (hx : a.eval x = .slice A2 m c2) (hr : Rd w size A2 m c2 news) (h1 : ∀ u ∈ news, u.oneCell' = true)
    (h63 : n + m ≤ maxLen) (hbytes : (n + m) * bytes ≤ 140737488355328) (hbase : B ≤ w.heap.size)
    (h : ∀ A' c' w', w'.ownsRow B e size (.slice A' (n + m) c') (n + m) (xs ++ news) → w.grownBy w' (Value.slice A n c).ownBlock → Below B w w' →
      ((Value.slice A' (n + m) c').ownBlock = (Value.slice A n c).ownBlock ∨ (Value.slice A' (n + m) c').ownBlock = some w.heap.size) →
      wpList P ops Q rest (a.put o.dst (.slice A' (n + m) c')) w') : wpList P ops Q (o :: rest) a w := by
  obtain ⟨A', c', w', hrun, h2, h3, h4⟩ := run_append_rd (P := P) t o.type i z bytes ht hi hz hsize hby hzs hsz hown hr h1 h63 hbytes hbase
  exact Lib.wpList_append_run w hgd s x t t ho _ _ hs hx _ _ hrun (h A' c' w' h2 h3 ((Below.refl B w).grown h3 hbase (fun k hk => (hown.lt k hk).1)) h4)
end
/-- Two rows of the call's own lie apart. -/
def Apart (u v : Value) : Prop := ∀ k, u.ownBlock = some k → v.ownBlock ≠ some k
theorem Apart.symm {u v : Value} (h : Apart u v) : Apart v u := fun k hk hu => h k hu hk
theorem Apart.kept {u v : Value} (h : Apart u v) : u.ownBlock = none ∨ u.ownBlock ≠ v.ownBlock := by
  cases hu : u.ownBlock with
  | none => exact .inl rfl
  | some k => exact .inr (fun e => h k hu e.symm)
theorem Apart.of_below {u v : Value} {B : Nat} (h1 : ∀ k, u.ownBlock = some k → k < B) (h2 : ∀ k, v.ownBlock = some k → B ≤ k) : Apart u v := fun k hu hv => by
  have := h1 k hu; have := h2 k hv; omega
/-- Behind an append to v: v's block is v's own or a new one. -/
theorem Apart.grew {u v v' : Value} {B : Nat} (h : Apart u v) (h1 : ∀ k, u.ownBlock = some k → k < B) (h2 : v'.ownBlock = v.ownBlock ∨ v'.ownBlock = some B) : Apart u v' := fun k hu hv => by
  rcases h2 with h2 | h2
  · rw [h2] at hv; exact h k hu hv
  · rw [h2] at hv; have := h1 k hu; injection hv with hv; omega
theorem lastE_le (k i : List UInt8) (j : Nat) : (lastE k i j).length ≤ 32 := by
  cases j with
  | zero => simp [lastE]
  | succ j => rw [lastE_length]; omega
theorem cnt_byte (j : Nat) (h : j < 256) : Value.int .u8 (j : Int) = byteV (UInt8.ofNat j) := by simp [byteV, Nat.mod_eq_of_lt h]

set_option maxRecDepth 100000 in
set_option maxHeartbeats 8000000 in
theorem expand_any (key info : List UInt8) (A : Option Addr) (nk c : Nat) (A2 : Option Addr) (ni c2 n : Nat) (w : World) (hk : Bytes w A nk c key) (hi2 : Bytes w A2 ni c2 info) (hni : ni ≤ 100000) (hn : n ≤ 8000) :
    Calls Try.prog 31 #[.slice A nk c, .slice A2 ni c2, .int .i64 n] w fun e w' => ∃ A', e = .returned (.tuple #[.slice A' n n, .int .i64 0]) ∧ Bytes w' A' n n (expandL key info n) ∧ Below w.heap.size w w' := by
  obtain ⟨i0, hi, hz0, hz1, hz2⟩ := info_parts infoByteA
  have KB := Lib.hid hk
  have IB := Lib.hid hi2
  have q1 := hk.le
  have q2 := hk.cap
  have q3 := hi2.le
  have q4 := hi2.cap
  clear hk hi2
  go_enter Try.func31, Try.ntmps31
  go_wp2
  go_loopw [8, 9, 10] (fun o l i wr => ∃ (j mo co ml cl : Nat) (AO AL : Option Addr), 32 * j ≤ n + 31 ∧ o = .slice AO mo co ∧ l = .slice AL ml cl ∧ i = .int .i64 ((j : Int) + 1) ∧ Hid (mo = 32 * j) ∧ ml ≤ 32 ∧
      Hid (wr.ownsRow w.heap.size 5 1 (.slice AO mo co) mo ((outE key info j).map byteV)) ∧ Hid (wr.ownsRow w.heap.size 5 1 (.slice AL ml cl) ml ((lastE key info j).map byteV)) ∧
      Hid (Apart (.slice AO mo co) (.slice AL ml cl)) ∧ Below w.heap.size w wr) (fun _ _ i _ => n + 32 - 32 * (intOf i).toNat)
  case atStart => exact ⟨0, 0, 0, 0, 0, none, none, by omega, rfl, rfl, rfl, rfl, by omega, own_nil _ _ _ _, own_nil _ _ _ _, Lib.hid (fun k hk => by simp [Value.ownBlock] at hk), by go_grown⟩
  case round =>
    obtain ⟨j, mo, co, ml, cl, AO, AL, hj, rfl, rfl, rfl, hm, hml, HO, HL, HA, hbr⟩ := hrel
    have hsr := hbr.size
    by_cases hmn : mo < n
    · have hmi : (mo : Int) < (n : Int) := by omega
      have hj5 : j ≤ 300 := by have := hm.out; omega
      have IBr := Lib.hid (IB.out.stays hbr)
      go_wp2_with (at_builtin; refine wpList_append_rd2 rfl _ _ 22 rfl i0 (.int .u8 0) 1 Try.underlying22 hi hz0 hz1 hz2 rfl (by decide) rfl HL.out rfl IBr.out (oneCell_bytes _) ?c1 ?c2 ?c3 ?_)
      case c1 => unfold maxLen; omega
      case c2 => omega
      case c3 => first | omega | (simp; omega)
      intro Ap cp wp hownp hgp hbp hop
      have OP := Lib.hid (HO.out.kept hgp HA.out.kept)
      have HP := Lib.hid hownp
      have HA2 : Hid (Apart (.slice AO mo co) (.slice Ap (ml + ni) cp)) := HA.out.grew (fun k hk => (HO.out.lt k hk).2) hop
      have Rp := hbr.trans hbp
      have hsp := Rp.size
      have hspr := hgp.size
      have HOlt : Hid (∀ k, (Value.slice AO mo co).ownBlock = some k → k < wr.heap.size) := fun k hk => (HO.out.lt k hk).2
      clear hownp hgp hbp hop HO HL HA IBr
      go_wp2_with (at_builtin; refine wpList_append_rd2 rfl _ _ 22 rfl i0 (.int .u8 0) 1 Try.underlying22 hi hz0 hz1 hz2 rfl (by decide) rfl (own_alloc HP.out _) rfl (rd_one _ _ _) (by simp [Value.oneCell']) ?c1 ?c2 ?c3 ?_)
      case c1 => unfold maxLen; omega
      case c2 => omega
      case c3 => first | omega | (simp; omega)
      intro Aq cq wq hownq hgq hbq hoq
      have OQ : Hid (wq.ownsRow w.heap.size 5 1 (.slice AO mo co) mo ((outE key info j).map byteV)) := (own_alloc OP.out _).kept hgq HA2.out.kept
      have Rq : Below w.heap.size w wq := (Rp.alloc hsp _).trans hbq
      have hsq := Rq.size
      have hsqr : wp.heap.size ≤ wq.heap.size := by have := hgq.size; simp at this; omega
      have hcb : [UInt8.ofNat (j + 1)].map byteV = [Value.int .u8 ((j : Int) + 1)] := by
        have h := cnt_byte (j + 1) (by omega)
        rw [Int.natCast_add] at h
        rw [List.map_cons, List.map_nil, ← h]
        rfl
      obtain ⟨X, hX⟩ : ∃ X, X = lastE key info j ++ info ++ [UInt8.ofNat (j + 1)] := ⟨_, rfl⟩
      have HX : Hid (lastE key info (j + 1) = macL key X) := by unfold Hid; rw [lastE, hX]
      have BQ : Hid (Bytes wq Aq (ml + ni + 1) cq X) := by
        have := own_rd hownq
        unfold Hid Bytes
        rw [hX, List.map_append, List.map_append, hcb, List.append_assoc]
        simpa only [List.append_assoc] using this
      clear hcb hX
      clear hownq hgq hbq hoq OP HP HA2 Rp hsp
      have KBq := Lib.hid (KB.out.stays Rq)
      go_wp2_with fail
      refine (mac_any _ _ _ _ _ _ _ _ _ KBq.out BQ.out (by omega)).mono ?_
      rintro e ws ⟨As, cs, rfl, hv, hb⟩
      have OS := Lib.hid (own_below OQ.out hb)
      have HS := Lib.hid hv
      have Rs := Rq.trans (hb.mono hsq)
      have hss := Rs.size
      have hAs : Hid (Apart (.slice As 32 cs) (.slice AO mo co)) := (Apart.of_below (B := wq.heap.size) (fun k hk => Nat.lt_of_lt_of_le (HOlt.out k hk) (by omega)) (fun k hk => (HS.out.lt k hk).1)).symm
      clear hv hb OQ KBq BQ
      go_wp2_with (at_builtin; refine wpList_append_rd2 rfl _ _ 22 rfl i0 (.int .u8 0) 1 Try.underlying22 hi hz0 hz1 hz2 rfl (by decide) rfl OS.out rfl (own_rd HS.out) (oneCell_bytes _) ?c1 ?c2 ?c3 ?_)
      case c1 => unfold maxLen; omega
      case c2 => omega
      case c3 => first | omega | (simp; omega)
      intro At ct wt hownt hgt hbt hot
      have OT : Hid (wt.ownsRow w.heap.size 5 1 (.slice At (mo + 32) ct) (mo + 32) ((outE key info (j + 1)).map byteV)) := by
        unfold Hid
        rw [outE, List.map_append, HX.out]
        exact hownt
      have HT : Hid (wt.ownsRow w.heap.size 5 1 (.slice As 32 cs) 32 ((lastE key info (j + 1)).map byteV)) := by
        unfold Hid
        rw [HX.out]
        exact own_more (B' := w.heap.size) (HS.out.kept hgt hAs.out.kept) hsq
      have HAT : Hid (Apart (.slice At (mo + 32) ct) (.slice As 32 cs)) := (hAs.out.grew (fun k hk => (HS.out.lt k hk).2) hot).symm
      have Rt := Rs.trans hbt
      clear hownt hgt hbt hot OS HS hAs Rs
      go_wp2
      go_roundw
      case rel => exact ⟨j + 1, mo + 32, ct, 32, cs, At, As, by have := hm.out; omega, rfl, rfl, by go_num, by have := hm.out; unfold Hid; omega, by omega, OT, HT, HAT, Rt⟩
      case measure => have := hm.out; simp [intOf]; omega
    · have hmi : ¬ (mo : Int) < (n : Int) := by omega
      have hr : Bytes wr AO mo co (outE key info j) := own_rd HO.out
      have q5 := hr.le
      have q6 := hr.cap
      have hcut := (hr.cut0 n (by omega)).cap_
      rw [expandL_of key info n j (by have := hm.out; omega)] at hcut
      have HC := Lib.hid hcut
      clear hcut hr
      go_wp2
      go_returns
      exact ⟨_, rfl, HC.out, hbr⟩

set_option maxRecDepth 100000 in
theorem expand_err (A : Option Addr) (nk c : Nat) (A2 : Option Addr) (ni c2 : Nat) (n : Int) (w : World) (hn : n < 0 ∨ 8160 < n) :
    Calls Try.prog 31 #[.slice A nk c, .slice A2 ni c2, .int .i64 n] w fun e w' => e = .returned (.tuple #[.slice none 0 0, .int .i64 4]) ∧ Below w.heap.size w w' := by
  by_cases h : n < 0
  all_goals
    go_enter Try.func31, Try.ntmps31
    first
      | (have h2 : 8160 < n := by omega
         go_wp2
         go_returns
         exact ⟨rfl, by go_grown⟩)
      | (go_wp2
         go_returns
         exact ⟨rfl, by go_grown⟩)
end Go.Proofs.Yticknkaohjkjpaa
