/- sectimeworld: Few, Field, Fields. -/
import Derived.Test.YtofadjcphaehcaaExtG
import Derived.Test.YtofadjcphaehcaaWithW
namespace Go.Proofs.Ytofadjcphaehcaa
open Go.RowKit

set_option maxRecDepth 100000 in
set_option maxHeartbeats 4000000 in
theorem few_any (A : Option Addr) (n c : Nat) (l : List UInt8) (w : World) (hb : Bytes w A n c l) :
    Calls Try.prog 91 #[.slice A n c, .int .i64 60] w fun e w' => ∃ A' c', e = .returned (.slice A' (min n 60) c') ∧ w'.ownsRow w.heap.size 5 1 (.slice A' (min n 60) c') (min n 60) ((l.take 60).map byteV) ∧ Below w.heap.size w w' := by
  have q1 := hb.le
  have q2 := hb.cap
  obtain ⟨m, hm⟩ : ∃ m, min n 60 = m := ⟨_, rfl⟩
  rw [hm]
  have hm1 : m ≤ n := by omega
  have hm2 : m ≤ 60 := by omega
  have VC := Lib.hid (hb.cutTo m hm1)
  have he : l.take 60 = l.take m := by
    rcases Nat.le_total n 60 with h | h
    · rw [List.take_of_length_le (by rw [hb.len]; exact h), List.take_of_length_le (by rw [hb.len]; omega)]
    · rw [show m = 60 by omega]
  rw [he]
  have HFL : Hid (([l.take m] : List (List UInt8)).flatten.length = m) := by have := VC.out.len; rw [Hid]; simpa using this
  clear hb he
  have e0 : max (60 : Int) 0 = 60 := by decide
  have e1 : min (n : Int) 60 = (m : Int) := by omega
  clear hm
  go_enter Try.func91, Try.ntmps91
  go_wp2_with fail
  refine (refJoin_any _ _ _ [_] _ (lists_made1 VC.out) _ HFL.out (by omega)).mono ?_
  rintro e y1 ⟨Aj, cj, rfl, hv, hb⟩
  have hbx : Below w.heap.size w y1 := below_via (by go_grown) hb (by first | (simp; done) | (simp; omega))
  have VC := Lib.hid (VC.out.stays hbx)
  have VJ := Lib.hid (own_more (B' := w.heap.size) hv (by simp))
  have R2 := Lib.hid hbx
  have hz_y1 := R2.out.size
  clear hb hbx 
  clear hv
  go_wp2
  go_ret
  exact ⟨Aj, cj, rfl, by have := VJ.out; simpa using this, R2.out⟩
/-- The type of a field that a number chooses. -/
def kd4 (v : Int) : Int := [260, 516, 772, 8192].getD (v % 4).toNat 0
theorem kd4_at (v : Int) (q : Nat) (h : v % 4 = (q : Int)) (hq : q < 4) : (#[Value.int .i64 260, .int .i64 516, .int .i64 772, .int .i64 8192])[q]? = some (.int .i64 (kd4 v)) := by
  unfold kd4
  rw [h, Int.toNat_natCast]
  match q, hq with
  | 0, _ | 1, _ | 2, _ | 3, _ => rfl
theorem kd4_mem (v : Int) : kd4 v = 260 ∨ kd4 v = 516 ∨ kd4 v = 772 ∨ kd4 v = 8192 := by
  obtain ⟨q, hq⟩ : ∃ q : Nat, v % 4 = (q : Int) := ⟨(v % 4).toNat, by omega⟩
  unfold kd4
  rw [hq, Int.toNat_natCast]
  match q, (show q < 4 by omega) with
  | 0, _ => exact .inl rfl
  | 1, _ => exact .inr (.inl rfl)
  | 2, _ => exact .inr (.inr (.inl rfl))
  | 3, _ => exact .inr (.inr (.inr rfl))
theorem within_to (v n q : Int) (h : v % n = q) (hn : 1 ≤ n) (h2 : n ≤ 9223372036854775807) (w : World) : Calls Try.prog 21 #[.int .i64 v, .int .i64 n] w fun e w' => e = .returned (.int .i64 q) ∧ w = w' := by
  subst h
  exact within_any v n hn h2 w
theorem Bytes.ne_fld {w : World} {A : Option Addr} {n c ob T : Nat} {l : List UInt8} {x0 x1 : Value} (h : Bytes w A n c l) (hB : Blk w ob T #[x0, x1]) (h0 : ∀ z : Nat, x0 ≠ .int .u8 z := by intro z e; cases e) (h1 : ∀ z : Nat, x1 ≠ .int .u8 z := by intro z e; cases e) : Off A n (some ob) := by
  intro x hx hn e
  injection e with e
  obtain ⟨b', off, e', hc⟩ := h.at_ hn
  rw [hx] at e'
  injection e' with e'
  subst e'
  simp only [] at e
  subst e
  rw [hB.cell] at hc
  match off, hc with
  | 0, hc => simp at hc; exact h0 _ hc
  | 1, hc => simp at hc; exact h1 _ hc
  | k + 2, hc => simp at hc
set_option maxRecDepth 100000 in
set_option maxHeartbeats 4000000 in
theorem fieldW_any (v : Int) (A : Option Addr) (n c : Nat) (l : List UInt8) (w : World) (hb : Bytes w A n c l) :
    Calls Try.prog 64 #[.int .i64 v, .slice A n c, .int .i64 60] w fun e w' => ∃ A' c', e = .returned (.agg #[.int .i64 (kd4 v), .slice A' (min n 60) c']) ∧ Bytes w' A' (min n 60) c' (l.take 60) ∧ Fresh w.heap.size A' ∧ Below w.heap.size w w' := by
  have q1 := hb.le
  have q2 := hb.cap
  have VB := Lib.hid hb
  have VB0 := Lib.hid hb
  obtain ⟨q, hq⟩ : ∃ q : Nat, v % 4 = (q : Int) := ⟨(v % 4).toNat, by omega⟩
  have hq4 : q < 4 := by omega
  have HKD := Lib.hid (kd4_at v q hq hq4)
  have HQ := Lib.hid hq
  have hqi : (q : Int) < 4 := by omega
  obtain ⟨ty, hty⟩ : ∃ ty, kd4 v = ty := ⟨_, rfl⟩
  rw [hty] at HKD ⊢
  clear hb hq hty
  go_enter Try.func64, Try.ntmps64
  go_upto_region 1 with fail
  obtain ⟨x1, h_, ex1, eh_⟩ : ∃ x1 h_, x1 = w.alloc (.cells #[.int .i64 0, .slice none 0 0] 38) ∧ h_ = w.heap.size := ⟨_, _, rfl, rfl⟩
  rw [← ex1, ← eh_]
  have hbx : Below w.heap.size w x1 := by rw [ex1]; exact below_alloc1 _ _ 
  have g_H : w.heap.size ≤ h_ := by rw [eh_]; exact Nat.le_refl _
  have VB := Lib.hid (VB.out.stays hbx)
  have BH := Lib.hid (show Blk x1 h_ 38 #[.int .i64 0, .slice none 0 0] by rw [ex1, eh_]; exact blk_new1_0 _ _ _ )
  have R2 := Lib.hid hbx
  have hz_x1 := R2.out.size
  clear hbx ex1 eh_
  refine zBegin (Z := [9]) (S := fun w' => Below x1.heap.size x1 w') (by kernel_rfl) ?pz1 ((Below.refl x1.heap.size x1).drew) (fun hPQ wd hbd hHeld => ?sz1)
  case pz1 => (repeat (with_reducible first | refine PQ.then ?_ | refine PQ.block ?_)); exact fun _ _ d _ _ h => by cases d <;> exact h
  case sz1 =>
    clear hbd
    refine zVal (i := 1) (d := (some 8)) (v := ?_) rfl rfl (by kernel_rfl) (by kernel_rfl) (by kernel_rfl) (by kernel_rfl) hPQ (by rfl) (fun wq hSw => ?_) hHeld ?_
    rotate_left 1
    · go_simp; try with_reducible rfl
    try simp only [Act.put, List.setIfInBounds_toArray, List.set_cons_zero, List.set_cons_succ]
    refine zCall (i := 2) (d := (some 9)) rfl rfl (by kernel_rfl) (by kernel_rfl) (by kernel_rfl) (by kernel_rfl) hPQ (by rfl) (fun wq hSw => (within_to v 4 q HQ.out (by decide) (by decide) wq).mono (fun e q hq => ⟨hq.1, by first | exact hq.2 | exact hq.2.symm⟩)) (fun wq hSw => ?_) hHeld ?_
    · go_simp
    try simp only [Act.put, List.setIfInBounds_toArray, List.set_cons_zero, List.set_cons_succ]
    refine zVal (i := 5) (d := (some 12)) (v := ?_) rfl rfl (by kernel_rfl) (by kernel_rfl) (by kernel_rfl) (by kernel_rfl) hPQ (by rfl) (fun wq hSw => ?_) hHeld ?_
    rotate_left 1
    · go_simp; try with_reducible rfl
    try simp only [Act.put, List.setIfInBounds_toArray, List.set_cons_zero, List.set_cons_succ]
    refine zVal (i := 6) (d := (some 13)) (v := ?_) rfl rfl (by kernel_rfl) (by kernel_rfl) (by kernel_rfl) (by kernel_rfl) hPQ (by rfl) (fun wq hSw => ?_) hHeld ?_
    rotate_left 1
    · go_simp; try with_reducible rfl
    try simp only [Act.put, List.setIfInBounds_toArray, List.set_cons_zero, List.set_cons_succ]
    refine zAll (rs := [0, 7]) (by kernel_rfl) (by decide) (fun k hk => ?_)
    rcases zTwo hk with rfl | rfl
    ·
      refine zOpNew (j := 0) (d := (some 7)) (T := 3) (z := #[.int .i64 260, .int .i64 516, .int .i64 772, .int .i64 8192]) (val := fun g => .slice (some ⟨g, 0, none⟩) 4 4) rfl rfl (by rfl) ?rz2 (fun gl u1 gl_ge gl_lt BL hb1 => ⟨.inr (hHeld.trans (hb1.mono hHeld.size)), ?tz2⟩)
      case rz2 => go_simp; try with_reducible rfl
      case tz2 =>
        try simp only [Act.put, List.setIfInBounds_toArray, List.set_cons_zero, List.set_cons_succ]
        have hHeld := hHeld.trans (hb1.mono hHeld.size)
        refine zVal (i := 3) (d := (some 10)) (v := ?_) rfl rfl (by kernel_rfl) (by kernel_rfl) (by kernel_rfl) (by kernel_rfl) hPQ (by rfl) (fun wq hSw => ?_) hHeld ?_
        rotate_left 1
        · go_simp; try with_reducible rfl
        try simp only [Act.put, List.setIfInBounds_toArray, List.set_cons_zero, List.set_cons_succ]
        refine zAll (rs := [4, 7]) (by kernel_rfl) (by decide) (fun k hk => ?_)
        rcases zTwo hk with rfl | rfl
        ·
          have kL : _ = some (Value.int .i64 ty) := (BL.cell q).trans HKD.out
          refine zOp (j := 4) (d := some 11) (v := .int .i64 ty) rfl rfl (by rfl) ?rz3 ⟨.inr hHeld, ?tz3⟩
          case rz3 => go_simp; try with_reducible rfl
          case tz3 =>
            try simp only [Act.put, List.setIfInBounds_toArray, List.set_cons_zero, List.set_cons_succ]
            clear kL
            refine zAlone (j := 7) (by kernel_rfl) ?_
            refine zOpCall (j := 7) (d := (some 14)) (R := fun v w' => ∃ Ap cp, v = .slice Ap (min n 60) cp ∧ w'.ownsRow u1.heap.size 5 1 (.slice Ap (min n 60) cp) (min n 60) ((l.take 60).map byteV) ∧ Below u1.heap.size u1 w') rfl rfl (by rfl) ?rz4 ((few_any _ _ _ _ _ (VB.out.stays hHeld)).mono fun e q hq => by obtain ⟨Ap, cp, h1, h2, h3⟩ := hq; exact ⟨_, h1, Ap, cp, rfl, h2, h3⟩) (fun v u2 hRv => ?tz4)
            case rz4 => go_simp
            case tz4 =>
              obtain ⟨AD, cD, rfl, hD, hb2⟩ := hRv
              refine ⟨.inr (hHeld.trans (hb2.mono hHeld.size)), ?_⟩
              try simp only [Act.put, List.setIfInBounds_toArray, List.set_cons_zero, List.set_cons_succ]
              have FD : Fresh w.heap.size AD := (Fresh.own hD).more (Nat.le_trans hz_x1 hHeld.size)
              have HD : Bytes _ AD (min n 60) cD (l.take 60) := own_rd hD
              have hHeld := hHeld.trans (hb2.mono hHeld.size)
              clear hD
              refine zVal (i := 8) (d := (some 15)) (v := ?_) rfl rfl (by kernel_rfl) (by kernel_rfl) (by kernel_rfl) (by kernel_rfl) hPQ (by rfl) (fun wq hSw => ?_) hHeld ?_
              rotate_left 1
              · go_simp; try with_reducible rfl
              try simp only [Act.put, List.setIfInBounds_toArray, List.set_cons_zero, List.set_cons_succ]
              have BH2 := BH.out.stays hHeld
              have kH0 := BH2.cell 0
              have kH1 := BH2.cell 1
              have fH0 := BH2.frozen 0
              have fH1 := BH2.frozen 1
              refine zAlone (j := 9) (by kernel_rfl) ?_
              refine zOpStore (j := 9) (w2 := (u2.setCell ⟨h_, 0, none⟩ (.int .i64 ty)).setCell ⟨h_, 1, none⟩ (.slice AD (min n 60) cD)) rfl rfl (by rfl) ?rz5 ⟨.inl (by decide), ?tz5⟩
              case rz5 => go_simp; try with_reducible rfl
              case tz5 =>
                try simp only [Act.put, List.setIfInBounds_toArray, List.set_cons_zero, List.set_cons_succ]
                refine zDone (by kernel_rfl) ?_ _
                have D1 : Blk ((u2.setCell ⟨h_, 0, none⟩ (.int .i64 ty)).setCell ⟨h_, 1, none⟩ (.slice AD (min n 60) cD)) h_ 38 #[.int .i64 ty, .slice AD (min n 60) cD] := (BH2.put 0 (.int .i64 ty)).put 1 (.slice AD (min n 60) cD)
                have RD : Below w.heap.size w ((u2.setCell ⟨h_, 0, none⟩ (.int .i64 ty)).setCell ⟨h_, 1, none⟩ (.slice AD (min n 60) cD)) := ((R2.out.trans (hHeld.mono hz_x1)).setCell (p := ⟨h_, 0, none⟩) g_H _).setCell (p := ⟨h_, 1, none⟩) g_H _
                have HDX : Bytes ((u2.setCell ⟨h_, 0, none⟩ (.int .i64 ty)).setCell ⟨h_, 1, none⟩ (.slice AD (min n 60) cD)) AD (min n 60) cD (l.take 60) := (HD.kept (put_grown h_ 0 _) (HD.ne_fld BH2)).kept (put_grown h_ 1 _) ((HD.kept (put_grown h_ 0 _) (HD.ne_fld BH2)).ne_fld (show Blk _ h_ 38 #[.int .i64 ty, .slice none 0 0] from BH2.put 0 (.int .i64 ty)))
                generalize (u2.setCell ⟨h_, 0, none⟩ (.int .i64 ty)).setCell ⟨h_, 1, none⟩ (.slice AD (min n 60) cD) = wd2 at *
                have d0 : wd2.cell? ⟨h_, 0, none⟩ = some (.int .i64 ty) := D1.cell 0
                have d1 : wd2.cell? ⟨h_, 1, none⟩ = some (.slice AD (min n 60) cD) := D1.cell 1
                clear kH0 kH1 fH0 fH1 BH2 hHeld
                try go_wp2_with fail
                refine bodyPost_ret (v := .agg #[.int .i64 ty, .slice AD (min n 60) cD]) (by simp [results, Try.results64, go_sem, *]) rfl ⟨AD, cD, rfl, HDX, FD, RD⟩
        ·
          refine zOpCall (j := 7) (d := (some 14)) (R := fun v w' => ∃ Ap cp, v = .slice Ap (min n 60) cp ∧ w'.ownsRow u1.heap.size 5 1 (.slice Ap (min n 60) cp) (min n 60) ((l.take 60).map byteV) ∧ Below u1.heap.size u1 w') rfl rfl (by rfl) ?rz6 ((few_any _ _ _ _ _ (VB.out.stays hHeld)).mono fun e q hq => by obtain ⟨Ap, cp, h1, h2, h3⟩ := hq; exact ⟨_, h1, Ap, cp, rfl, h2, h3⟩) (fun v u3 hRv => ?tz6)
          case rz6 => go_simp
          case tz6 =>
            obtain ⟨AD, cD, rfl, hD, hb3⟩ := hRv
            refine ⟨.inr (hHeld.trans (hb3.mono hHeld.size)), ?_⟩
            try simp only [Act.put, List.setIfInBounds_toArray, List.set_cons_zero, List.set_cons_succ]
            have FD : Fresh w.heap.size AD := (Fresh.own hD).more (Nat.le_trans hz_x1 hHeld.size)
            have HD : Bytes _ AD (min n 60) cD (l.take 60) := own_rd hD
            have hHeld := hHeld.trans (hb3.mono hHeld.size)
            clear hD
            have BL := BL.stays hb3
            refine zAlone (j := 4) (by kernel_rfl) ?_
            have kL : _ = some (Value.int .i64 ty) := (BL.cell q).trans HKD.out
            refine zOp (j := 4) (d := some 11) (v := .int .i64 ty) rfl rfl (by rfl) ?rz7 ⟨.inr hHeld, ?tz7⟩
            case rz7 => go_simp; try with_reducible rfl
            case tz7 =>
              try simp only [Act.put, List.setIfInBounds_toArray, List.set_cons_zero, List.set_cons_succ]
              clear kL
              refine zVal (i := 8) (d := (some 15)) (v := ?_) rfl rfl (by kernel_rfl) (by kernel_rfl) (by kernel_rfl) (by kernel_rfl) hPQ (by rfl) (fun wq hSw => ?_) hHeld ?_
              rotate_left 1
              · go_simp; try with_reducible rfl
              try simp only [Act.put, List.setIfInBounds_toArray, List.set_cons_zero, List.set_cons_succ]
              have BH2 := BH.out.stays hHeld
              have kH0 := BH2.cell 0
              have kH1 := BH2.cell 1
              have fH0 := BH2.frozen 0
              have fH1 := BH2.frozen 1
              refine zAlone (j := 9) (by kernel_rfl) ?_
              refine zOpStore (j := 9) (w2 := (u3.setCell ⟨h_, 0, none⟩ (.int .i64 ty)).setCell ⟨h_, 1, none⟩ (.slice AD (min n 60) cD)) rfl rfl (by rfl) ?rz8 ⟨.inl (by decide), ?tz8⟩
              case rz8 => go_simp; try with_reducible rfl
              case tz8 =>
                try simp only [Act.put, List.setIfInBounds_toArray, List.set_cons_zero, List.set_cons_succ]
                refine zDone (by kernel_rfl) ?_ _
                have D1 : Blk ((u3.setCell ⟨h_, 0, none⟩ (.int .i64 ty)).setCell ⟨h_, 1, none⟩ (.slice AD (min n 60) cD)) h_ 38 #[.int .i64 ty, .slice AD (min n 60) cD] := (BH2.put 0 (.int .i64 ty)).put 1 (.slice AD (min n 60) cD)
                have RD : Below w.heap.size w ((u3.setCell ⟨h_, 0, none⟩ (.int .i64 ty)).setCell ⟨h_, 1, none⟩ (.slice AD (min n 60) cD)) := ((R2.out.trans (hHeld.mono hz_x1)).setCell (p := ⟨h_, 0, none⟩) g_H _).setCell (p := ⟨h_, 1, none⟩) g_H _
                have HDX : Bytes ((u3.setCell ⟨h_, 0, none⟩ (.int .i64 ty)).setCell ⟨h_, 1, none⟩ (.slice AD (min n 60) cD)) AD (min n 60) cD (l.take 60) := (HD.kept (put_grown h_ 0 _) (HD.ne_fld BH2)).kept (put_grown h_ 1 _) ((HD.kept (put_grown h_ 0 _) (HD.ne_fld BH2)).ne_fld (show Blk _ h_ 38 #[.int .i64 ty, .slice none 0 0] from BH2.put 0 (.int .i64 ty)))
                generalize (u3.setCell ⟨h_, 0, none⟩ (.int .i64 ty)).setCell ⟨h_, 1, none⟩ (.slice AD (min n 60) cD) = wd2 at *
                have d0 : wd2.cell? ⟨h_, 0, none⟩ = some (.int .i64 ty) := D1.cell 0
                have d1 : wd2.cell? ⟨h_, 1, none⟩ = some (.slice AD (min n 60) cD) := D1.cell 1
                clear kH0 kH1 fH0 fH1 BH2 hHeld
                try go_wp2_with fail
                refine bodyPost_ret (v := .agg #[.int .i64 ty, .slice AD (min n 60) cD]) (by simp [results, Try.results64, go_sem, *]) rfl ⟨AD, cD, rfl, HDX, FD, RD⟩
    ·
      refine zOpCall (j := 7) (d := (some 14)) (R := fun v w' => ∃ Ap cp, v = .slice Ap (min n 60) cp ∧ w'.ownsRow wd.heap.size 5 1 (.slice Ap (min n 60) cp) (min n 60) ((l.take 60).map byteV) ∧ Below wd.heap.size wd w') rfl rfl (by rfl) ?rz9 ((few_any _ _ _ _ _ (VB.out.stays hHeld)).mono fun e q hq => by obtain ⟨Ap, cp, h1, h2, h3⟩ := hq; exact ⟨_, h1, Ap, cp, rfl, h2, h3⟩) (fun v u4 hRv => ?tz9)
      case rz9 => go_simp
      case tz9 =>
        obtain ⟨AD, cD, rfl, hD, hb4⟩ := hRv
        refine ⟨.inr (hHeld.trans (hb4.mono hHeld.size)), ?_⟩
        try simp only [Act.put, List.setIfInBounds_toArray, List.set_cons_zero, List.set_cons_succ]
        have FD : Fresh w.heap.size AD := (Fresh.own hD).more (Nat.le_trans hz_x1 hHeld.size)
        have HD : Bytes _ AD (min n 60) cD (l.take 60) := own_rd hD
        have hHeld := hHeld.trans (hb4.mono hHeld.size)
        clear hD
        refine zAlone (j := 0) (by kernel_rfl) ?_
        refine zOpNew (j := 0) (d := (some 7)) (T := 3) (z := #[.int .i64 260, .int .i64 516, .int .i64 772, .int .i64 8192]) (val := fun g => .slice (some ⟨g, 0, none⟩) 4 4) rfl rfl (by rfl) ?rz10 (fun gl u5 gl_ge gl_lt BL hb5 => ⟨.inr (hHeld.trans (hb5.mono hHeld.size)), ?tz10⟩)
        case rz10 => go_simp; try with_reducible rfl
        case tz10 =>
          try simp only [Act.put, List.setIfInBounds_toArray, List.set_cons_zero, List.set_cons_succ]
          have hHeld := hHeld.trans (hb5.mono hHeld.size)
          have HD := HD.stays hb5
          refine zVal (i := 3) (d := (some 10)) (v := ?_) rfl rfl (by kernel_rfl) (by kernel_rfl) (by kernel_rfl) (by kernel_rfl) hPQ (by rfl) (fun wq hSw => ?_) hHeld ?_
          rotate_left 1
          · go_simp; try with_reducible rfl
          try simp only [Act.put, List.setIfInBounds_toArray, List.set_cons_zero, List.set_cons_succ]
          refine zAlone (j := 4) (by kernel_rfl) ?_
          have kL : _ = some (Value.int .i64 ty) := (BL.cell q).trans HKD.out
          refine zOp (j := 4) (d := some 11) (v := .int .i64 ty) rfl rfl (by rfl) ?rz11 ⟨.inr hHeld, ?tz11⟩
          case rz11 => go_simp; try with_reducible rfl
          case tz11 =>
            try simp only [Act.put, List.setIfInBounds_toArray, List.set_cons_zero, List.set_cons_succ]
            clear kL
            refine zVal (i := 8) (d := (some 15)) (v := ?_) rfl rfl (by kernel_rfl) (by kernel_rfl) (by kernel_rfl) (by kernel_rfl) hPQ (by rfl) (fun wq hSw => ?_) hHeld ?_
            rotate_left 1
            · go_simp; try with_reducible rfl
            try simp only [Act.put, List.setIfInBounds_toArray, List.set_cons_zero, List.set_cons_succ]
            have BH2 := BH.out.stays hHeld
            have kH0 := BH2.cell 0
            have kH1 := BH2.cell 1
            have fH0 := BH2.frozen 0
            have fH1 := BH2.frozen 1
            refine zAlone (j := 9) (by kernel_rfl) ?_
            refine zOpStore (j := 9) (w2 := (u5.setCell ⟨h_, 0, none⟩ (.int .i64 ty)).setCell ⟨h_, 1, none⟩ (.slice AD (min n 60) cD)) rfl rfl (by rfl) ?rz12 ⟨.inl (by decide), ?tz12⟩
            case rz12 => go_simp; try with_reducible rfl
            case tz12 =>
              try simp only [Act.put, List.setIfInBounds_toArray, List.set_cons_zero, List.set_cons_succ]
              refine zDone (by kernel_rfl) ?_ _
              have D1 : Blk ((u5.setCell ⟨h_, 0, none⟩ (.int .i64 ty)).setCell ⟨h_, 1, none⟩ (.slice AD (min n 60) cD)) h_ 38 #[.int .i64 ty, .slice AD (min n 60) cD] := (BH2.put 0 (.int .i64 ty)).put 1 (.slice AD (min n 60) cD)
              have RD : Below w.heap.size w ((u5.setCell ⟨h_, 0, none⟩ (.int .i64 ty)).setCell ⟨h_, 1, none⟩ (.slice AD (min n 60) cD)) := ((R2.out.trans (hHeld.mono hz_x1)).setCell (p := ⟨h_, 0, none⟩) g_H _).setCell (p := ⟨h_, 1, none⟩) g_H _
              have HDX : Bytes ((u5.setCell ⟨h_, 0, none⟩ (.int .i64 ty)).setCell ⟨h_, 1, none⟩ (.slice AD (min n 60) cD)) AD (min n 60) cD (l.take 60) := (HD.kept (put_grown h_ 0 _) (HD.ne_fld BH2)).kept (put_grown h_ 1 _) ((HD.kept (put_grown h_ 0 _) (HD.ne_fld BH2)).ne_fld (show Blk _ h_ 38 #[.int .i64 ty, .slice none 0 0] from BH2.put 0 (.int .i64 ty)))
              generalize (u5.setCell ⟨h_, 0, none⟩ (.int .i64 ty)).setCell ⟨h_, 1, none⟩ (.slice AD (min n 60) cD) = wd2 at *
              have d0 : wd2.cell? ⟨h_, 0, none⟩ = some (.int .i64 ty) := D1.cell 0
              have d1 : wd2.cell? ⟨h_, 1, none⟩ = some (.slice AD (min n 60) cD) := D1.cell 1
              clear kH0 kH1 fH0 fH1 BH2 hHeld
              try go_wp2_with fail
              refine bodyPost_ret (v := .agg #[.int .i64 ty, .slice AD (min n 60) cD]) (by simp [results, Try.results64, go_sem, *]) rfl ⟨AD, cD, rfl, HDX, FD, RD⟩
end Go.Proofs.Ytofadjcphaehcaa
