/- rough.check; three rows of bytes of the call's own. -/
import Derived.Test.YtbjmojajhkhekaaRgA
import Derived.Test.YtbjmojajhkhekaaRgL
import Derived.Test.YtbjmojajhkhekaaBlks
import Derived.Test.YtbjmojajhkhekaaTakeZ
import Derived.Test.YtbjmojajhkhekaaReg
import Derived.Deep.DeepCutAuto
import Derived.StillTailTactics
import Derived.Outline
import Derived.Test.YtbjmojajhkhekaaConcat
namespace Go.Proofs.Ytbjmojajhkhekaa
open Go Go.RowKit

set_option maxRecDepth 100000 in
set_option maxHeartbeats 4000000 in
theorem check_any28 (A : Option Addr) (n c : Nat) (ts : Tags) (w : World) (hv : TagL w A n c ts) :
    Calls Try.prog 50 #[.slice A n c] w fun e w' => e = .returned (.int .i64 (firstErr ts n)) ∧ Below w.heap.size w w' := by
  have hcap := hv.cap
  have hle0 := hv.le
  have HL := Lib.hid hv.len
  have HV := Lib.hid hv
  clear hv
  go_enter Try.func50, Try.ntmps50
  go_wp2_with fail
  go_loopw [3, 8] (fun la i wr => ∃ k : Nat, k ≤ n ∧ i = .int .i64 k ∧ la = .string (lstT ts k) ∧ Hid (firstErr ts k = 0) ∧ Below w.heap.size w wr) (fun _ i _ => n - (intOf i).toNat)
  case atStart => exact ⟨0, Nat.zero_le _, rfl, rfl, rfl, Below.refl _ _⟩
  case round =>
    obtain ⟨k, hk, rfl, rfl, H0, hbr⟩ := hrel
    have RW := Lib.hid hbr
    have hz_wr := hbr.size
    by_cases hkn : k < n
    ·
      have hki : (k : Int) < (n : Int) := by omega
      obtain ⟨bb, off, A', n', c', rfl, hc0, hc1, hy⟩ := (HV.out.stays hbr).at_ hkn
      have HE := Lib.hid (tagErr_eq ts k)
      obtain ⟨nm, hnm⟩ : ∃ nm, tgN ts k = nm := ⟨_, rfl⟩
      obtain ⟨la, hla⟩ : ∃ la, lstT ts k = la := ⟨_, rfl⟩
      have HLN : Hid (lstT ts (k + 1) = nm) := by rw [Hid, lstT, if_neg (by omega)]; exact hnm
      rw [hnm, hla, hy.len] at HE
      rw [hnm] at hc0
      rw [hla]
      have hnle := hy.le
      have hncap := hy.cap
      clear hbr hy hnm hla
      go_upto_region 5 with fail
      obtain ⟨x1, t_, ex1, et_⟩ : ∃ x1 t_, x1 = wr.alloc (.cells #[.string nm, .slice A' n' c'] 60) ∧ t_ = wr.heap.size := ⟨_, _, rfl, rfl⟩
      rw [← ex1, ← et_]
      have hbx : Below wr.heap.size wr x1 := by rw [ex1]; exact below_alloc1 _ _ 
      have g_T : w.heap.size ≤ t_ := by rw [et_]; exact hz_wr
      have BT := Lib.hid (show Blk x1 t_ 60 #[.string nm, .slice A' n' c'] by rw [ex1, et_]; exact blk_new1_0 _ _ _ )
      have R2 := Lib.hid (RW.out.trans (hbx.mono hz_wr))
      have hz_x1 := R2.out.size
      clear hbx ex1 et_ RW hz_wr
      clear hc0 hc1
      have kT_0 : x1.cell? ⟨t_, 0, none⟩ = some (.string nm) := BT.out.cell 0
      have kT_1 : x1.cell? ⟨t_, 1, none⟩ = some (.slice A' n' c') := BT.out.cell 1
      go_wp2_with fail
      refine (named_any nm _).mono ?_
      rintro e y3 ⟨rfl, hb⟩
      clear kT_0 kT_1
      have hbx : Below x1.heap.size x1 y3 := below_via (by go_grown) hb (by first | (simp; done) | (simp; omega))
      have BT := Lib.hid (BT.out.stays hbx)
      have R4 := Lib.hid (R2.out.trans (hbx.mono hz_x1))
      have hz_y3 := R4.out.size
      clear hb hbx  R2 hz_x1
      by_cases hno : nameOk nm
      case neg =>
        have HN : Hid (firstErr ts n = 11) := firstErr_at ts k n H0.out hkn (by rw [HE.out]; exact if_pos hno) (by decide)
        rw [decide_eq_false hno]
        clear hno
        go_wp2
        go_ret
        exact ⟨by rw [HN.out]; rfl, R4.out⟩
      rw [decide_eq_true hno]
      have HNO := Lib.hid hno
      obtain ⟨bl, hbl⟩ : ∃ bl, Op.bytesLess la.toList nm.toList = bl := ⟨_, rfl⟩
      have hle : (Op.bytesLess nm.toList la.toList || nm.toList == la.toList) = !bl := by rw [less_total, hbl]
      have HBL := Lib.hid hbl
      clear hno hbl
      have kT_0 : y3.cell? ⟨t_, 0, none⟩ = some (.string nm) := BT.out.cell 0
      have kT_1 : y3.cell? ⟨t_, 1, none⟩ = some (.slice A' n' c') := BT.out.cell 1
      cases bl with
      | false =>
        have HN : Hid (firstErr ts n = 12) := firstErr_at ts k n H0.out hkn (by rw [HE.out]; rw [if_neg (fun q => q HNO.out), if_pos HBL.out]) (by decide)
        simp only [Bool.not_false] at hle
        go_wp2
        go_ret
        exact ⟨by rw [HN.out]; rfl, R4.out⟩
      | true =>
        simp only [Bool.not_true] at hle
        have ht4 : Int.tmod (n' : Int) 4 = ((n' % 4 : Nat) : Int) := by rw [Int.tmod_eq_emod_of_nonneg (by omega)]; omega
        obtain ⟨m4, hm4⟩ : ∃ m4, n' % 4 = m4 := ⟨_, rfl⟩
        rw [hm4] at ht4 HE
        clear hm4
        by_cases hm0 : m4 = 0
        ·
          subst hm0
          have H1 : Hid (firstErr ts (k + 1) = 0) := firstErr_next ts k H0.out (by rw [HE.out, if_neg (fun q => q HNO.out), if_neg (fun q => by rw [HBL.out] at q; cases q), if_neg (by decide)])
          go_wp2
          go_roundw
          case rel => exact ⟨k + 1, by omega, by go_num, by rw [HLN.out], H1, R4.out⟩
          case measure => simp [intOf]; omega
        ·
          have hm0i : ¬ ((m4 : Nat) : Int) = 0 := by omega
          have hm0b : (((m4 : Nat) : Int) != 0) = true := by simpa [bne] using hm0
          have HN : Hid (firstErr ts n = 3) := firstErr_at ts k n H0.out hkn (by rw [HE.out]; rw [if_neg (fun q => q HNO.out), if_neg (fun q => by rw [HBL.out] at q; cases q), if_pos hm0]) (by decide)
          go_wp2
          go_ret
          exact ⟨by rw [HN.out]; rfl, R4.out⟩
    · obtain rfl : k = n := by omega
      go_wp2
      go_ret
      exact ⟨by rw [H0.out]; rfl, RW.out⟩

/-- Two rows of the call's own lie apart. -/
def Apart3 (u v : Value) : Prop := ∀ k, u.ownBlock = some k → v.ownBlock ≠ some k
theorem Apart3.symm {u v : Value} (h : Apart3 u v) : Apart3 v u := fun k hk hu => h k hu hk
theorem Apart3.kept {u v : Value} (h : Apart3 u v) : u.ownBlock = none ∨ u.ownBlock ≠ v.ownBlock := by
  cases hu : u.ownBlock with
  | none => exact .inl rfl
  | some k => exact .inr (fun e => h k hu e.symm)
/-- Behind an append to v: another row that lies apart. -/
theorem apart_move {w w' : World} {B e s n1 : Nat} {u v v' : Value} {xs : List Value} (h1 : w.ownsRow B e s u n1 xs) (ha : Apart3 u v) (hg : w.grownBy w' v.ownBlock) (hb : v'.ownBlock = v.ownBlock ∨ v'.ownBlock = some w.heap.size) :
    w'.ownsRow B e s u n1 xs ∧ Apart3 u v' := by
  refine ⟨h1.kept hg ha.kept, fun k hu hv => ?_⟩
  rcases hb with h2 | h2
  · rw [h2] at hv; exact ha k hu hv
  · rw [h2] at hv
    have := (h1.lt k hu).2
    injection hv with hv
    omega
/-- The places, the names and the data: three rows that lie apart. -/
structure Row3 (w : World) (B : Nat) (A1 : Option Addr) (n1 c1 : Nat) (l1 : List UInt8) (A2 : Option Addr) (n2 c2 : Nat) (l2 : List UInt8) (A3 : Option Addr) (n3 c3 : Nat) (l3 : List UInt8) : Prop where
  o1 : w.ownsRow B 5 1 (.slice A1 n1 c1) n1 (l1.map byteV)
  o2 : w.ownsRow B 5 1 (.slice A2 n2 c2) n2 (l2.map byteV)
  o3 : w.ownsRow B 5 1 (.slice A3 n3 c3) n3 (l3.map byteV)
  a12 : Apart3 (.slice A1 n1 c1) (.slice A2 n2 c2)
  a13 : Apart3 (.slice A1 n1 c1) (.slice A3 n3 c3)
  a23 : Apart3 (.slice A2 n2 c2) (.slice A3 n3 c3)
theorem own_ne28 {w : World} {B e size n ob T : Nat} {v : Value} {xs : List Value} {cs : Array Value} (h : w.ownsRow B e size v n xs) (hB : Blk w ob T cs) (hne : e ≠ T) : v.ownBlock ≠ some ob := by
  rcases h.2 with ⟨rfl, _⟩ | ⟨g, cap, cur, rfl, _, hg, _⟩
  · intro h; cases h
  · intro h
    have hgo : g = ob := by simpa [Value.ownBlock] using h
    subst hgo
    have h2 := hg.symm.trans hB
    simp only [Option.some.injEq, Obj.cells.injEq] at h2
    exact hne h2.2.1
/-- What an append to a row of bytes leaves alone. -/
def Keeps (B : Nat) (w w' : World) : Prop := (∀ g T cs, Blk w g T cs → 5 ≠ T → Blk w' g T cs) ∧ Below B w w'
section
variable {w w' : World} {B n1 c1 n2 c2 n3 c3 m cm : Nat} {A1 A2 A3 Am : Option Addr} {l1 l2 l3 l : List UInt8}
theorem Row3.nil (w : World) (B : Nat) : Row3 w B none 0 0 [] none 0 0 [] none 0 0 [] :=
  ⟨own_nil _ _ _ _, own_nil _ _ _ _, own_nil _ _ _ _, (fun k h => by cases h), (fun k h => by cases h), (fun k h => by cases h)⟩
theorem Row3.stays (h : Row3 w B A1 n1 c1 l1 A2 n2 c2 l2 A3 n3 c3 l3) (hb : Below w.heap.size w w') : Row3 w' B A1 n1 c1 l1 A2 n2 c2 l2 A3 n3 c3 l3 :=
  ⟨own_below h.o1 hb, own_below h.o2 hb, own_below h.o3 hb, h.a12, h.a13, h.a23⟩
theorem keeps_of {v : Value} {n : Nat} {xs : List Value} (h : w.ownsRow B 5 1 v n xs) (hz : B ≤ w.heap.size) (hg : w.grownBy w' v.ownBlock) : Keeps B w w' :=
  ⟨fun g T cs hB hne => hB.grown hg (fun e => own_ne28 h hB hne e.symm), (Below.refl B w).grown hg hz (fun k hk => (h.lt k hk).1)⟩
theorem Row3.app1 (h : Row3 w B A1 n1 c1 l1 A2 n2 c2 l2 A3 n3 c3 l3) (hr : Bytes w Am m cm l) (hn : n1 + m ≤ 100000000) (hz : B ≤ w.heap.size) (ty : TypeId) :
    ∃ A' c' w', (Builtin.append_ #[28, 28] ty #[.slice A1 n1 c1, .slice Am m cm]).run Try.prog w = .ok (.slice A' (n1 + m) c') w' ∧ Row3 w' B A' (n1 + m) c' (l1 ++ l) A2 n2 c2 l2 A3 n3 c3 l3 ∧ Keeps B w w' := by
  obtain ⟨i0, hi, hz0, hz1, hz2⟩ := info_parts infoByteA
  obtain ⟨A', c', w', hrun, h2, h3, h4⟩ := run_append_rd (P := Try.prog) 28 ty i0 _ 1 Try.underlying28 hi hz0 hz1 hz2 rfl (by decide) h.o1 hr (oneCell_bytes _) (by unfold maxLen; omega) (by omega) hz
  obtain ⟨p2, q2⟩ := apart_move (u := .slice A2 n2 c2) h.o2 h.a12.symm h3 h4
  obtain ⟨p3, q3⟩ := apart_move (u := .slice A3 n3 c3) h.o3 h.a13.symm h3 h4
  exact ⟨A', c', w', hrun, ⟨by rw [List.map_append]; exact h2, p2, p3, q2.symm, q3.symm, h.a23⟩, keeps_of h.o1 hz h3⟩
theorem Row3.app3 (h : Row3 w B A1 n1 c1 l1 A2 n2 c2 l2 A3 n3 c3 l3) (hr : Bytes w Am m cm l) (hn : n3 + m ≤ 100000000) (hz : B ≤ w.heap.size) (ty : TypeId) :
    ∃ A' c' w', (Builtin.append_ #[28, 28] ty #[.slice A3 n3 c3, .slice Am m cm]).run Try.prog w = .ok (.slice A' (n3 + m) c') w' ∧ Row3 w' B A1 n1 c1 l1 A2 n2 c2 l2 A' (n3 + m) c' (l3 ++ l) ∧ Keeps B w w' := by
  obtain ⟨i0, hi, hz0, hz1, hz2⟩ := info_parts infoByteA
  obtain ⟨A', c', w', hrun, h2, h3, h4⟩ := run_append_rd (P := Try.prog) 28 ty i0 _ 1 Try.underlying28 hi hz0 hz1 hz2 rfl (by decide) h.o3 hr (oneCell_bytes _) (by unfold maxLen; omega) (by omega) hz
  obtain ⟨p1, q1⟩ := apart_move (u := .slice A1 n1 c1) h.o1 h.a13 h3 h4
  obtain ⟨p2, q2⟩ := apart_move (u := .slice A2 n2 c2) h.o2 h.a23 h3 h4
  exact ⟨A', c', w', hrun, ⟨p1, p2, by rw [List.map_append]; exact h2, h.a12, q1, q2⟩, keeps_of h.o3 hz h3⟩
theorem Row3.app2 (h : Row3 w B A1 n1 c1 l1 A2 n2 c2 l2 A3 n3 c3 l3) (s : ByteArray) (hn : n2 + s.size ≤ 100000000) (hz : B ≤ w.heap.size) (ty : TypeId) :
    ∃ A' c' w', (Builtin.append_ #[28, 9] ty #[.slice A2 n2 c2, .string s]).run Try.prog w = .ok (.slice A' (n2 + s.size) c') w' ∧ Row3 w' B A1 n1 c1 l1 A' (n2 + s.size) c' (l2 ++ s.data.toList) A3 n3 c3 l3 ∧ Keeps B w w' := by
  obtain ⟨i0, hi, hz0, hz1, hz2⟩ := info_parts infoByteA
  obtain ⟨A', c', w', hrun, h2, h3, h4⟩ := run_append_str (P := Try.prog) 28 9 ty 5 i0 Try.underlying28 Try.underlying9 hi hz0 hz1 hz2 h.o2 s hn hz
  obtain ⟨p1, q1⟩ := apart_move (u := .slice A1 n1 c1) h.o1 h.a12 h3 h4
  obtain ⟨p3, q3⟩ := apart_move (u := .slice A3 n3 c3) h.o3 h.a23.symm h3 h4
  exact ⟨A', c', w', hrun, ⟨p1, by rw [List.map_append]; exact h2, p3, q1, h.a13, q3.symm⟩, keeps_of h.o2 hz h3⟩
end
/-- An append whose run is known, guarded or not; with any types. -/
theorem wpList_append_h {P : Program} {ops : Array Oper} {rest : List Oper} {o : Oper} {a : Act} {w : World} {Q : Exit → Act → World → Prop} (hw : Region.wanted o (yielded ops a.tmps) = true) (s x : Operand) (t u : TypeId)
    (ho : o.op = .call { callee := .builtin .append, args := #[s, x], argTypes := #[t, u] }) {vs vx : Value} (hs : a.eval s = vs) (hx : a.eval x = vx) {R : Value → World → Prop}
    (hr : ∃ v w', (Builtin.append_ #[t, u] o.type #[vs, vx]).run P w = .ok v w' ∧ R v w') (h : ∀ v w', R v w' → wpList P ops Q rest (a.put o.dst v) w') : wpList P ops Q (o :: rest) a w := by
  obtain ⟨v, w', hrun, hR⟩ := hr
  unfold wpList
  rw [if_pos hw]
  exact .inl (Lib.wp_append_run w s x t u ho vs vx hs hx v w' hrun (h v w' hR))
/-- An append in a region whose order is open, with any types. -/
theorem zOpAppT {P : Program} {ops : Array Oper} {Q : Exit → Act → World → Prop} {j : Nat} {oj : Oper} {d : Option Tmp} {s y : Operand} {t u : TypeId} {vs vy : Value} {R : Value → World → Prop} {K : Act → World → Prop} {a : Act} {w : World} (hj : ops[j]? = some oj) (hd : oj.dst = d) (hg : Region.wanted oj (yielded ops a.tmps) = true)
    (hop : oj.op = .call { callee := .builtin .append, args := #[s, y], argTypes := #[t, u] }) (hs : a.eval s = vs) (hy : a.eval y = vy) (hrun : ∃ v w2, (Builtin.append_ #[t, u] oj.type #[vs, vy]).run P w = .ok v w2 ∧ R v w2)
    (h : ∀ v w2, R v w2 → K (a.put d v) w2) : wpOp P ops Q j K a w := by
  obtain ⟨v, w2, hr, hR⟩ := hrun
  exact zOp hj hd hg (by simp [execOp, hop, resolve, invoke, builtin, hs, hy, hr, Result.andThen]) (h v w2 hR)
end Go.Proofs.Ytbjmojajhkhekaa
