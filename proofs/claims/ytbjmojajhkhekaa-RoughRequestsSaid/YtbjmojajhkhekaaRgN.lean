/- Coarse-time messages: Decode undoes Encode, Encode undoes Decode, Find finds; requests. Plain laws. -/
import Derived.Test.YtbjmojajhkhekaaRgI
import Derived.Test.YtbjmojajhkhekaaPutBe
namespace Go.Proofs.Ytbjmojajhkhekaa
open Go Go.RowKit

theorem less_trans : ∀ a b c : List UInt8, Op.bytesLess a b = true → Op.bytesLess b c = true → Op.bytesLess a c = true
  | _, _, [], h1, h2 => by cases ‹List UInt8› <;> simp [Op.bytesLess] at h2
  | [], _, c :: z, _, _ => rfl
  | a :: x, [], c :: z, h1, _ => by simp [Op.bytesLess] at h1
  | a :: x, b :: y, c :: z, h1, h2 => by
    simp only [Op.bytesLess, Bool.or_eq_true, Bool.and_eq_true, decide_eq_true_eq, beq_iff_eq] at h1 h2 ⊢
    rcases h1 with h1 | ⟨rfl, h1⟩
    · rcases h2 with h2 | ⟨rfl, h2⟩
      · left
        have := UInt8.lt_iff_toNat_lt.1 h1
        have := UInt8.lt_iff_toNat_lt.1 h2
        exact UInt8.lt_iff_toNat_lt.2 (by omega)
      · exact .inl h1
    · rcases h2 with h2 | ⟨rfl, h2⟩
      · exact .inl h2
      · exact .inr ⟨rfl, less_trans x y z h1 h2⟩
/-- The tags ahead of n have no error. -/
def goodT (ts : Tags) (n : Nat) : Prop := ∀ k, k < n → nameOk (tgN ts k) ∧ (0 < k → Op.bytesLess (tgN ts (k - 1)).toList (tgN ts k).toList = true) ∧ (tgD ts k).length % 4 = 0
theorem goodT_of {ts : Tags} {n : Nat} (h : firstErr ts n = 0) : goodT ts n := fun k hk => tagErr_0 (firstErr_ok ts n h k hk)
theorem goodT_less {ts : Tags} {n : Nat} (h : goodT ts n) : ∀ i j, i < j → j < n → Op.bytesLess (tgN ts i).toList (tgN ts j).toList = true := by
  intro i j hij
  induction j with
  | zero => omega
  | succ j ih =>
    intro hj
    have h1 := (h (j + 1) hj).2.1 (by omega)
    rw [Nat.add_sub_cancel] at h1
    by_cases e : i = j
    · subst e; exact h1
    · exact less_trans _ _ _ (ih (by omega) (by omega)) h1
theorem fnd_good {ts : Tags} (h : goodT ts ts.length) {i : Nat} (hi : i < ts.length) : fndT ts (tgN ts i) = (tgD ts i, true) := by
  refine fndT_at ts _ i hi (fun j hj => ?_) (by simp)
  have h1 := goodT_less h j i hj hi
  cases q : ((tgN ts j).toList == (tgN ts i).toList) with
  | false => rfl
  | true =>
    rw [beq_iff_eq.1 q, less_irrefl] at h1
    cases h1
/-- Words behind each other. -/
def cat (f : Nat → List UInt8) : Nat → List UInt8
  | 0 => []
  | n + 1 => cat f n ++ f n
theorem cat_len {f : Nat → List UInt8} : ∀ n, (∀ i, i < n → (f i).length = 4) → (cat f n).length = 4 * n
  | 0, _ => rfl
  | n + 1, h => by rw [cat, List.length_append, cat_len n (fun i hi => h i (by omega)), h n (by omega)]; omega
theorem cat_congr {f g : Nat → List UInt8} : ∀ n, (∀ i, i < n → f i = g i) → cat f n = cat g n
  | 0, _ => rfl
  | n + 1, h => by rw [cat, cat, cat_congr n (fun i hi => h i (by omega)), h n (by omega)]
theorem cat_at {f : Nat → List UInt8} : ∀ (n : Nat) (r : List UInt8), (∀ i, i < n → (f i).length = 4) → ∀ i, i < n → ((cat f n ++ r).drop (4 * i)).take 4 = f i
  | 0, _, _, i, hi => by omega
  | n + 1, r, h, i, hi => by
    rw [cat, List.append_assoc]
    by_cases e : i < n
    · exact cat_at n (f n ++ r) (fun j hj => h j (by omega)) i e
    · obtain rfl : i = n := by omega
      rw [List.drop_append_of_le_length (by rw [cat_len i (fun j hj => h j (by omega))]; exact Nat.le_refl _), List.drop_of_length_le (by rw [cat_len i (fun j hj => h j (by omega))]; exact Nat.le_refl _), List.nil_append]
      have := h i (by omega)
      rw [List.take_append_of_le_length (by omega), List.take_of_length_le (by omega)]
theorem cat_take (l : List UInt8) : ∀ n, 4 * n ≤ l.length → cat (fun i => (l.drop (4 * i)).take 4) n = l.take (4 * n)
  | 0, _ => by simp [cat]
  | n + 1, h => by
    rw [cat, cat_take l n (by omega), show 4 * (n + 1) = 4 * n + 4 by omega, List.take_add]
def wdT (ts : Tags) (N i : Nat) : List UInt8 := if i = 0 then putL N 4 else putL (dl ts i) 4
theorem wdT_len (ts : Tags) (N i : Nat) : (wdT ts N i).length = 4 := by unfold wdT; split <;> exact putL_length _ _
theorem cat_plc (ts : Tags) (N : Nat) : ∀ k, 1 ≤ k → putL N 4 ++ plcT ts k = cat (wdT ts N) k
  | 0, h => by omega
  | 1, _ => by simp [cat, plcT, wdT]
  | k + 2, _ => by
    rw [cat, ← cat_plc ts N (k + 1) (by omega), plcT, if_neg (by omega), ← List.append_assoc, wdT, if_neg (by omega)]
theorem cat_nm (ts : Tags) : ∀ k, nmT ts k = cat (fun i => (tgN ts i).data.toList) k
  | 0 => rfl
  | k + 1 => by rw [nmT, cat, cat_nm ts k]
theorem dl_mono (ts : Tags) : ∀ k m, k ≤ m → dl ts k ≤ dl ts m := by
  intro k m h
  induction m with
  | zero => obtain rfl : k = 0 := by omega
            exact Nat.le_refl _
  | succ m ih =>
    by_cases e : k = m + 1
    · subst e; exact Nat.le_refl _
    · have := ih (by omega)
      rw [dl]; omega
theorem daT_at (ts : Tags) : ∀ (n : Nat) (r : List UInt8) (i : Nat), i < n → ((daT ts n ++ r).drop (dl ts i)).take (dl ts (i + 1) - dl ts i) = tgD ts i
  | 0, _, _, h => by omega
  | n + 1, r, i, h => by
    rw [daT, List.append_assoc]
    by_cases e : i < n
    · exact daT_at ts n (tgD ts n ++ r) i e
    · obtain rfl : i = n := by omega
      have hl := daT_len ts i
      rw [List.drop_append_of_le_length (by omega), List.drop_of_length_le (by omega), List.nil_append, dl, Nat.add_sub_cancel_left, List.take_append_of_le_length (Nat.le_refl _), List.take_of_length_le (Nat.le_refl _)]
theorem strOf_data (s : ByteArray) : strOf s.data.toList = s := by unfold strOf; cases s; simp
theorem be_word (v : Nat) (hv : v < 4294967296) : be64 (putL v 4) 4 = v := by
  have := pb_be_putL v 4 (by decide) []
  rw [List.append_nil] at this
  rw [this]
  exact Nat.mod_eq_of_lt hv
theorem tags_ext {a b : Tags} (hl : a.length = b.length) (h : ∀ i, i < a.length → tgN a i = tgN b i ∧ tgD a i = tgD b i) : a = b := by
  refine List.ext_getElem hl fun i h1 h2 => ?_
  have := h i h1
  simp [tgN, tgD, List.getD, h1, h2] at this
  exact Prod.ext this.1 this.2
/-- What Encode accepts. -/
theorem encR_0 {ts : Tags} (h : (encR ts).2 = 0) : 1 ≤ ts.length ∧ ts.length ≤ 16 ∧ firstErr ts ts.length = 0 ∧ 8 * ts.length + dl ts ts.length ≤ 2048 ∧ encR ts = (encT ts, 0) := by
  unfold encR at h ⊢
  by_cases h1 : ts.length < 1 ∨ 16 < ts.length
  · rw [if_pos h1] at h; cases h
  rw [if_neg h1] at h ⊢
  by_cases h2 : firstErr ts ts.length ≠ 0
  · rw [if_pos h2] at h; exact absurd h h2
  rw [if_neg h2] at h ⊢
  by_cases h3 : 2048 < 8 * ts.length + dl ts ts.length
  · rw [if_pos h3] at h; cases h
  rw [if_neg h3]
  exact ⟨by omega, by omega, by simpa using h2, by omega, rfl⟩
theorem encT_len {ts : Tags} (h : goodT ts ts.length) (h1 : 1 ≤ ts.length) : (encT ts).length = 8 * ts.length + dl ts ts.length := by
  unfold encT
  rw [List.length_append, List.length_append, List.length_append, putL_length, plcT_len, nmT_len ts _ (fun j hj => (h j hj).1), daT_len]
  omega
theorem encR_len (ts : Tags) : (encR ts).1.length ≤ 2048 := by
  by_cases h : (encR ts).2 = 0
  · obtain ⟨h1, h2, h3, h4, h5⟩ := encR_0 h
    rw [h5, encT_len (goodT_of h3) h1]; exact h4
  · unfold encR at h ⊢
    split
    · simp
    · split
      · simp
      · split
        · simp
        · rename_i q1 q2 q3; rw [if_neg q1, if_neg q2, if_neg q3] at h; exact absurd rfl h
theorem dl_mod {ts : Tags} {n : Nat} (h : goodT ts n) : ∀ k, k ≤ n → dl ts k % 4 = 0
  | 0, _ => rfl
  | k + 1, hk => by
    have h1 := dl_mod h k (by omega)
    have h2 := (h k hk).2.2
    rw [dl]; omega
/-- Decode undoes Encode. -/
theorem decR_enc {ts : Tags} (h : (encR ts).2 = 0) : decR (encR ts).1 = (ts, 0) := by
  obtain ⟨h1, h2, h3, h4, h5⟩ := encR_0 h
  have hg := goodT_of h3
  have hlen := encT_len hg h1
  rw [h5]
  simp only []
  obtain ⟨n, hn⟩ : ∃ n, ts.length = n := ⟨_, rfl⟩
  rw [hn] at h1 h2 h3 h4 hg hlen
  have hb : encT ts = cat (wdT ts n) n ++ (cat (fun i => (tgN ts i).data.toList) n ++ daT ts n) := by
    unfold encT; rw [hn, cat_plc ts n n h1, cat_nm, List.append_assoc]
  have hnm4 : ∀ i, i < n → ((tgN ts i).data.toList).length = 4 := fun i hi => by rw [Array.length_toList]; exact (hg i hi).1.1
  have hw : ∀ i, i < n → ((encT ts).drop (4 * i)).take 4 = wdT ts n i := fun i hi => by rw [hb]; exact cat_at n _ (fun j _ => wdT_len ts n j) i hi
  have hdl : ∀ i, i ≤ n → dl ts i ≤ 2048 := fun i hi => by have := dl_mono ts i n hi; omega
  have hN0 : numT (encT ts) 0 = n := by
    have := hw 0 (by omega)
    unfold numT; rw [this, wdT, if_pos rfl]; exact be_word n (by omega)
  have hNi : ∀ i, i < n → 0 < i → numT (encT ts) i = dl ts i := fun i hi h0 => by
    have := hw i hi
    unfold numT; rw [this, wdT, if_neg (by omega)]; exact be_word _ (by have := hdl i (by omega); omega)
  have hpl : ∀ i, i < n → plB (encT ts) i = dl ts i := fun i hi => by
    unfold plB
    by_cases h0 : i = 0
    · subst h0; rw [if_pos rfl]; rfl
    · rw [if_neg h0]; exact hNi i hi (by omega)
  have hS : (encT ts).length = 8 * n + dl ts n := hlen
  have hok : okP (encT ts) (dl ts n) n := fun i hi h0 => by
    rw [hNi i hi (by omega), hpl (i - 1) (by omega)]
    exact ⟨dl_mod hg i (by omega), dl_mono ts _ _ (by omega), dl_mono ts _ _ (by omega)⟩
  have hat : ∀ i, i ≤ n → atB (encT ts) n (dl ts n) i = dl ts i := fun i hi => by
    unfold atB
    by_cases e : i < n
    · rw [if_pos e]; exact hpl i e
    · obtain rfl : i = n := by omega
      rw [if_neg e]
  have hcl : (cat (wdT ts n) n).length = 4 * n := cat_len n (fun j _ => wdT_len ts n j)
  have hcm : (cat (fun i => (tgN ts i).data.toList) n).length = 4 * n := cat_len n hnm4
  have hd1 : (encT ts).drop (4 * n) = cat (fun i => (tgN ts i).data.toList) n ++ daT ts n := by
    rw [hb, List.drop_append_of_le_length (by omega), List.drop_of_length_le (by omega), List.nil_append]
  have hd2 : (encT ts).drop (8 * n) = daT ts n := by
    rw [show 8 * n = 4 * n + 4 * n by omega, ← List.drop_drop, hd1, List.drop_append_of_le_length (by omega), List.drop_of_length_le (by omega), List.nil_append]
  have hts : tagsB (encT ts) n (dl ts n) n = ts := by
    refine tags_ext (by rw [tagsB_len]; exact hn.symm) fun i hi => ?_
    rw [tagsB_len] at hi
    rw [tagsB_N _ hi, tagsB_D _ hi]
    constructor
    · unfold nmB
      rw [show 4 * (n + i) = 4 * n + 4 * i by omega, ← List.drop_drop, hd1, cat_at n _ hnm4 i hi]
      exact strOf_data _
    · unfold dtB
      rw [hat i (by omega), hat (i + 1) (by omega), hd2]
      have := daT_at ts n [] i hi
      rwa [List.append_nil] at this
  rw [decR_ok rfl (by omega) (by omega) hN0 h1 h2 hS hok (dl_mod hg n (Nat.le_refl _)) (by rw [hts]; exact h3), hts]
/-- What Decode accepts. -/
theorem decR_0 {b : List UInt8} (h : (decR b).2 = 0) : ∃ n S, 1 ≤ n ∧ n ≤ 16 ∧ numT b 0 = n ∧ b.length = 8 * n + S ∧ b.length ≤ 2048 ∧ okP b S n ∧ S % 4 = 0 ∧ firstErr (tagsB b n S n) n = 0 ∧ decR b = (tagsB b n S n, 0) := by
  by_cases h1 : 2048 < b.length
  · rw [decR_long rfl h1] at h; cases h
  by_cases h2 : b.length < 4
  · rw [decR_short rfl (by omega) h2] at h; cases h
  by_cases h3 : numT b 0 < 1 ∨ 16 < numT b 0
  · rw [decR_limit rfl (by omega) (by omega) rfl h3] at h; cases h
  by_cases h4 : b.length < 8 * numT b 0
  · rw [decR_short2 rfl (by omega) (by omega) rfl (by omega) (by omega) h4] at h; cases h
  by_cases h5 : okP b (b.length - 8 * numT b 0) (numT b 0) ∧ (b.length - 8 * numT b 0) % 4 = 0
  · by_cases h6 : firstErr (tagsB b (numT b 0) (b.length - 8 * numT b 0) (numT b 0)) (numT b 0) = 0
    · exact ⟨numT b 0, b.length - 8 * numT b 0, by omega, by omega, rfl, by omega, by omega, h5.1, h5.2, h6, decR_ok rfl (by omega) (by omega) rfl (by omega) (by omega) (by omega) h5.1 h5.2 h6⟩
    · rw [decR_err rfl (by omega) (by omega) rfl (by omega) (by omega) (by omega) h5.1 h5.2 rfl h6] at h; exact absurd h h6
  · rw [decR_form rfl (by omega) (by omega) rfl (by omega) (by omega) (by omega) h5] at h; cases h
theorem decR_bad {b : List UInt8} (h : (decR b).2 ≠ 0) : (decR b).1 = [] := by
  unfold decR at h ⊢
  split
  · rfl
  · split
    · rfl
    · split
      · rfl
      · split
        · rfl
        · split
          · split
            · rename_i q1 q2 q3 q4 q5 q6; rw [if_neg q1, if_neg q2, if_neg q3, if_neg q4, if_pos q5, if_pos q6] at h; exact absurd rfl h
            · rfl
          · rfl
/-- Encode undoes Decode. -/
theorem encR_dec {b : List UInt8} (h : (decR b).2 = 0) : encR (decR b).1 = (b, 0) := by
  obtain ⟨n, S, h1, h2, hN, hl, h2048, hok, hS, hfe, he⟩ := decR_0 h
  rw [he]
  simp only []
  obtain ⟨ts, hts⟩ : ∃ ts, tagsB b n S n = ts := ⟨_, rfl⟩
  have hlt : ts.length = n := by rw [← hts]; exact tagsB_len _ _ _ _
  have hD : ∀ i, i < n → tgD ts i = dtB b n S i := fun i hi => by rw [← hts]; exact tagsB_D b hi
  have hNm : ∀ i, i < n → tgN ts i = nmB b n i := fun i hi => by rw [← hts]; exact tagsB_N b hi
  have hdl : ∀ i, i ≤ n → dl ts i = atB b n S i := by
    intro i
    induction i with
    | zero => intro _; unfold atB plB; rw [if_pos (by omega), if_pos rfl]; rfl
    | succ i ih =>
      intro hi
      have := atB_le hok hS (show i < n by omega)
      rw [dl, ih (by omega), hD i (by omega), dtB_len hok hS (by omega) hl]; omega
  have hdn : dl ts n = S := by rw [hdl n (Nat.le_refl _), atB, if_neg (by omega)]
  rw [hts] at hfe ⊢
  rw [encR_ok hlt h1 h2 hfe (by omega)]
  have hw : cat (wdT ts n) n = b.take (4 * n) := by
    rw [← cat_take b n (by omega)]
    refine cat_congr n fun i hi => ?_
    have hX : ((b.drop (4 * i)).take 4).length = 4 := by rw [List.length_take, List.length_drop]; omega
    have hp := pb_putL_be64 ((b.drop (4 * i)).take 4) 4 (by decide) (by omega)
    rw [List.take_of_length_le (show ((b.drop (4 * i)).take 4).length ≤ 4 by omega)] at hp
    unfold wdT
    by_cases h0 : i = 0
    · subst h0
      rw [if_pos rfl, ← hN]; exact hp
    · rw [if_neg h0, hdl i (by omega), atB, if_pos hi, plB, if_neg h0]; exact hp
  have hm : cat (fun i => (tgN ts i).data.toList) n = (b.drop (4 * n)).take (4 * n) := by
    rw [← cat_take (b.drop (4 * n)) n (by rw [List.length_drop]; omega)]
    refine cat_congr n fun i hi => ?_
    rw [hNm i hi, nmB, List.drop_drop, show 4 * (n + i) = 4 * n + 4 * i by omega]
    simp [strOf]
  have hda : ∀ k, k ≤ n → daT ts k = (b.drop (8 * n)).take (atB b n S k) := by
    intro k
    induction k with
    | zero => intro _; unfold atB plB; rw [if_pos (by omega), if_pos rfl]; rfl
    | succ k ih =>
      intro hk
      have := atB_le hok hS (show k < n by omega)
      rw [daT, ih (by omega), hD k (by omega), dtB, ← List.take_add]
      congr 1; omega
  have hd := hda n (Nat.le_refl _)
  rw [show atB b n S n = S by rw [atB, if_neg (by omega)], List.take_of_length_le (by rw [List.length_drop]; omega)] at hd
  rw [cat_plc ts n n h1, cat_nm, hw, hm, hd, show b.drop (8 * n) = (b.drop (4 * n)).drop (4 * n) by rw [List.drop_drop]; congr 1; omega, List.append_assoc, List.take_append_drop, List.take_append_drop]
/-! Requests. -/
def hdR : List UInt8 := [0, 0, 0, 2, 0, 0, 0, 32, 78, 79, 78, 67, 80, 65, 68, 83]
def RQ (n : List UInt8) : List UInt8 := hdR ++ (n ++ padZ28)
theorem rq_enc {n : List UInt8} (h : n.length = 32) : encR (rqT n) = (RQ n, 0) := by
  have hfe : firstErr (rqT n) 2 = 0 := by
    have e0 : tagErr (rqT n) 0 = 0 := by
      unfold tagErr
      rw [if_neg (by simp only [Decidable.not_not]; show nameOk nmNONC; decide +kernel), if_neg (by omega), if_neg (by show ¬ n.length % 4 ≠ 0; omega)]
    have e1 : tagErr (rqT n) 1 = 0 := by
      unfold tagErr
      rw [if_neg (by simp only [Decidable.not_not]; show nameOk nmPADS; decide +kernel), if_neg (by intro q; have q2 := q.2; revert q2; show ¬ Op.bytesLess nmNONC.toList nmPADS.toList = false; decide +kernel), if_neg (by show ¬ padZ28.length % 4 ≠ 0; rw [padZ28_len]; decide)]
    rw [firstErr, firstErr, firstErr, if_pos rfl, e0, if_pos rfl, e1]
  have hdl : dl (rqT n) 2 = 2032 := by
    show 0 + n.length + padZ28.length = 2032
    rw [h, padZ28_len]
  rw [encR_ok (n := 2) rfl (by decide) (by decide) hfe (by rw [hdl]; decide)]
  have e2 : dl (rqT n) 1 = 32 := by show 0 + n.length = 32; omega
  have e3 : plcT (rqT n) 2 = putL 32 4 := by show (if (1 : Nat) = 0 then [] else (if (0 : Nat) = 0 then [] else _) ++ putL (dl (rqT n) 1) 4) = _; rw [e2]; rfl
  have e4 : daT (rqT n) 2 = n ++ padZ28 := rfl
  have e5 : nmT (rqT n) 2 = [78, 79, 78, 67, 80, 65, 68, 83] := rfl
  rw [e3, e4, e5]
  have e6 : putL 2 4 = [0, 0, 0, 2] := by decide +kernel
  have e7 : putL 32 4 = [0, 0, 0, 32] := by decide +kernel
  rw [e6, e7]
  rfl
theorem reqR_32 {n : List UInt8} (h : n.length = 32) : reqR n = (RQ n, 0) := by rw [reqR, if_neg (by simpa using h), rq_enc h]
theorem reqR_odd {n : List UInt8} (h : n.length ≠ 32) : reqR n = ([], 3) := by rw [reqR, if_pos h]
theorem RQ_len {n : List UInt8} (h : n.length = 32) : (RQ n).length = 2048 := by
  unfold RQ; rw [List.length_append, List.length_append, h, padZ28_len]; rfl
theorem nncR_RQ {n : List UInt8} (h : n.length = 32) : nncR (RQ n) = (n, 0) := by
  have h1 := rq_enc h
  have h2 := decR_enc (ts := rqT n) (by rw [h1])
  rw [h1] at h2
  have h3 : fndT (rqT n) nmNONC = (n, true) := by
    show (if (nmNONC.toList == nmNONC.toList) = true then (n, true) else _) = _
    rw [if_pos (by simp)]
  unfold nncR
  rw [h2]
  simp only []
  rw [h3]
  simp only []
  rw [reqR_32 h, if_pos ⟨rfl, rfl⟩]
theorem nncR_0 {b : List UInt8} (h : (nncR b).2 = 0) : ∃ n, n.length = 32 ∧ b = RQ n ∧ nncR b = (n, 0) := by
  unfold nncR at h ⊢
  by_cases q : (reqR (fndT (decR b).1 nmNONC).1).2 = 0 ∧ (reqR (fndT (decR b).1 nmNONC).1).1 = b
  · rw [if_pos q]
    by_cases h32 : ((fndT (decR b).1 nmNONC).1).length = 32
    · refine ⟨_, h32, ?_, rfl⟩
      have := q.2
      rw [reqR_32 h32] at this
      exact this.symm
    · rw [reqR_odd h32] at q; exact absurd q.1 (by decide)
  · rw [if_neg q] at h; cases h
/-- A byte of a request is changed. -/
theorem rq_set_in {n : List UInt8} (h : n.length = 32) {k : Nat} (x : UInt8) (h1 : 16 ≤ k) (h2 : k < 48) : (RQ n).set k x = RQ (n.set (k - 16) x) := by
  unfold RQ
  rw [List.set_append_right _ _ (by show 16 ≤ k; exact h1)]
  have e : k - hdR.length = k - 16 := rfl
  rw [e, List.set_append_left _ _ (by omega)]
theorem rq_set_out {n : List UInt8} (h : n.length = 32) {k : Nat} (x : UInt8) (hk : k < 2048) (hx : (RQ n)[k]? ≠ some x) (h1 : ¬ (16 ≤ k ∧ k < 48)) : (nncR ((RQ n).set k x)).2 ≠ 0 := by
  intro h0
  obtain ⟨m, hm, he, _⟩ := nncR_0 h0
  have hl := RQ_len h
  have e1 : ((RQ n).set k x)[k]? = some x := by rw [List.getElem?_set_self (by omega)]
  rw [he] at e1
  apply hx
  rw [← e1]
  unfold RQ
  by_cases e : k < 16
  · rw [List.getElem?_append_left (by exact e), List.getElem?_append_left (by exact e)]
  · have e2 : hdR.length = 16 := rfl
    rw [List.getElem?_append_right (by omega), List.getElem?_append_right (by omega), List.getElem?_append_right (by omega), List.getElem?_append_right (by omega), h, hm]
end Go.Proofs.Ytbjmojajhkhekaa
