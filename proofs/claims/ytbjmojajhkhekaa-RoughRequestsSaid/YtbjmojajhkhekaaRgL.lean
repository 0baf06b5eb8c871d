/- Coarse-time messages: what they are, in plain words; appending a string. -/
import Derived.Test.YtbjmojajhkhekaaTag
import Derived.Test.YtbjmojajhkhekaaPut
import Derived.Lib.AppendStr
namespace Go.Proofs.Ytbjmojajhkhekaa
open Go Go.RowKit

abbrev Tags := List (ByteArray × List UInt8)
/-- The error of the tag k. -/
def tagErr (ts : Tags) (k : Nat) : Int :=
  if ¬ nameOk (tgN ts k) then 11 else if 0 < k ∧ Op.bytesLess (tgN ts (k - 1)).toList (tgN ts k).toList = false then 12 else if (tgD ts k).length % 4 ≠ 0 then 3 else 0
/-- The first error among the first k tags. -/
def firstErr (ts : Tags) : Nat → Int
  | 0 => 0
  | k + 1 => if firstErr ts k = 0 then tagErr ts k else firstErr ts k
theorem firstErr_stay (ts : Tags) (k : Nat) (h : firstErr ts k ≠ 0) : ∀ m, k ≤ m → firstErr ts m = firstErr ts k := by
  intro m hm
  induction m with
  | zero => obtain rfl : k = 0 := by omega
            rfl
  | succ m ih =>
    rcases Nat.lt_or_ge m k with h1 | h1
    · obtain rfl : k = m + 1 := by omega
      rfl
    · rw [firstErr, ih h1, if_neg h]
theorem firstErr_at (ts : Tags) (k n : Nat) (h0 : firstErr ts k = 0) (hk : k < n) {e : Int} (he : tagErr ts k = e) (h : e ≠ 0) : firstErr ts n = e := by
  have h1 : firstErr ts (k + 1) = e := by rw [firstErr, if_pos h0, he]
  rw [firstErr_stay ts (k + 1) (by rw [h1]; exact h) n hk, h1]
theorem firstErr_next (ts : Tags) (k : Nat) (h0 : firstErr ts k = 0) (he : tagErr ts k = 0) : firstErr ts (k + 1) = 0 := by rw [firstErr, if_pos h0, he]
theorem firstErr_ok (ts : Tags) : ∀ n, firstErr ts n = 0 → ∀ k, k < n → tagErr ts k = 0
  | 0, _, k, h => by omega
  | n + 1, h, k, hk => by
    rw [firstErr] at h
    by_cases h0 : firstErr ts n = 0
    · rw [if_pos h0] at h
      by_cases e : k = n
      · subst e; exact h
      · exact firstErr_ok ts n h0 k (by omega)
    · rw [if_neg h0] at h; exact absurd h h0
theorem tagErr_0 {ts : Tags} {k : Nat} (h : tagErr ts k = 0) : nameOk (tgN ts k) ∧ (0 < k → Op.bytesLess (tgN ts (k - 1)).toList (tgN ts k).toList = true) ∧ (tgD ts k).length % 4 = 0 := by
  unfold tagErr at h
  by_cases h1 : nameOk (tgN ts k)
  · rw [if_neg (fun q => q h1)] at h
    by_cases h2 : 0 < k ∧ Op.bytesLess (tgN ts (k - 1)).toList (tgN ts k).toList = false
    · rw [if_pos h2] at h; cases h
    · rw [if_neg h2] at h
      by_cases h3 : (tgD ts k).length % 4 ≠ 0
      · rw [if_pos h3] at h; cases h
      · refine ⟨h1, fun hk => ?_, by omega⟩
        cases hb : Op.bytesLess (tgN ts (k - 1)).toList (tgN ts k).toList
        · exact absurd ⟨hk, hb⟩ h2
        · rfl
  · rw [if_pos h1] at h; cases h
/-- The name ahead of the tag k. -/
def lstT (ts : Tags) (k : Nat) : ByteArray := if k = 0 then ByteArray.empty else tgN ts (k - 1)
theorem toList_len (s : ByteArray) : s.toList.length = s.size := by rw [ByteArray.toList_eq]; rfl
theorem empty_less {s : ByteArray} (h : s.size = 4) : Op.bytesLess ByteArray.empty.toList s.toList = true := by
  have e : ByteArray.empty.toList = [] := List.eq_nil_of_length_eq_zero (toList_len _)
  have := toList_len s
  rw [e]
  cases hs : s.toList with
  | nil => rw [hs] at this; simp at this; omega
  | cons a x => rfl
theorem tagErr_eq (ts : Tags) (k : Nat) : tagErr ts k = if ¬ nameOk (tgN ts k) then 11 else if Op.bytesLess (lstT ts k).toList (tgN ts k).toList = false then 12 else if (tgD ts k).length % 4 ≠ 0 then 3 else 0 := by
  unfold tagErr
  by_cases h1 : nameOk (tgN ts k)
  · by_cases h0 : k = 0
    · subst h0
      have e := empty_less h1.1
      have e2 : Op.bytesLess (lstT ts 0).toList (tgN ts 0).toList = true := by unfold lstT; rw [if_pos rfl]; exact e
      refine Eq.trans (b := if (tgD ts 0).length % 4 ≠ 0 then (3 : Int) else 0) ?_ (Eq.symm ?_)
      · rw [if_neg (fun q => q h1), if_neg (fun q => by omega)]
      · rw [if_neg (fun q => q h1), if_neg (fun q => by rw [e2] at q; cases q)]
    · have hp : 0 < k := by omega
      simp [lstT, h0, hp, h1]
  · simp [h1]
/-- The bytes of data ahead of the tag k. -/
def dl (ts : Tags) : Nat → Nat
  | 0 => 0
  | k + 1 => dl ts k + (tgD ts k).length
/-- The places. -/
def plcT (ts : Tags) : Nat → List UInt8
  | 0 => []
  | k + 1 => if k = 0 then [] else plcT ts k ++ putL (dl ts k) 4
def nmT (ts : Tags) : Nat → List UInt8
  | 0 => []
  | k + 1 => nmT ts k ++ (tgN ts k).data.toList
def daT (ts : Tags) : Nat → List UInt8
  | 0 => []
  | k + 1 => daT ts k ++ tgD ts k
def encT (ts : Tags) : List UInt8 := putL ts.length 4 ++ plcT ts ts.length ++ nmT ts ts.length ++ daT ts ts.length
theorem daT_len (ts : Tags) : ∀ k, (daT ts k).length = dl ts k
  | 0 => rfl
  | k + 1 => by rw [daT, List.length_append, daT_len ts k, dl]
theorem plcT_len (ts : Tags) : ∀ k, (plcT ts k).length = 4 * (k - 1)
  | 0 => rfl
  | k + 1 => by
    rw [plcT]
    by_cases h : k = 0
    · subst h; rfl
    · rw [if_neg h, List.length_append, plcT_len ts k, putL_length]; omega
theorem nmT_len (ts : Tags) : ∀ k, (∀ j, j < k → nameOk (tgN ts j)) → (nmT ts k).length = 4 * k
  | 0, _ => rfl
  | k + 1, h => by
    have := (h k (by omega)).1
    rw [nmT, List.length_append, nmT_len ts k (fun j hj => h j (by omega)), Array.length_toList]
    have e : (tgN ts k).data.size = 4 := this
    omega
theorem dl_le (ts : Tags) (m : Nat) (h : ∀ k, (tgD ts k).length ≤ m) : ∀ k, dl ts k ≤ k * m
  | 0 => by simp [dl]
  | k + 1 => by
    have := dl_le ts m h k
    have := h k
    rw [dl, Nat.add_mul, Nat.one_mul]; omega
/-- Encode. -/
def encR (ts : Tags) : List UInt8 × Int :=
  if ts.length < 1 ∨ 16 < ts.length then ([], 8) else if firstErr ts ts.length ≠ 0 then ([], firstErr ts ts.length) else if 2048 < 8 * ts.length + dl ts ts.length then ([], 2) else (encT ts, 0)
theorem encR_limit {ts : Tags} {n : Nat} (hl : ts.length = n) (h : n < 1 ∨ 16 < n) : encR ts = ([], 8) := by subst hl; rw [encR, if_pos h]
theorem encR_err {ts : Tags} {n : Nat} (hl : ts.length = n) (h1 : 1 ≤ n) (h2 : n ≤ 16) {e : Int} (he : firstErr ts n = e) (h : e ≠ 0) : encR ts = ([], e) := by
  subst hl he; rw [encR, if_neg (by omega), if_pos h]
theorem encR_long {ts : Tags} {n : Nat} (hl : ts.length = n) (h1 : 1 ≤ n) (h2 : n ≤ 16) (he : firstErr ts n = 0) (h : 2048 < 8 * n + dl ts n) : encR ts = ([], 2) := by
  subst hl; rw [encR, if_neg (by omega), if_neg (by rw [he]; exact fun h => h rfl), if_pos h]
theorem encR_ok {ts : Tags} {n : Nat} (hl : ts.length = n) (h1 : 1 ≤ n) (h2 : n ≤ 16) (he : firstErr ts n = 0) (h : ¬ 2048 < 8 * n + dl ts n) : encR ts = (putL n 4 ++ plcT ts n ++ nmT ts n ++ daT ts n, 0) := by
  subst hl; rw [encR, if_neg (by omega), if_neg (by rw [he]; exact fun h => h rfl), if_neg h, encT]

/-- The bytes of a string behind a row of the call's own. -/
theorem run_append_str {P : Program} {w : World} {B n c : Nat} {A : Option Addr} {xs : List Value} (t u ty e : TypeId) (i : TypeInfo) (ht : P.underlying t = some (.slice e)) (hu : P.underlying u = some .string) (hi : P.info? e = some i) (hz : i.zero = some (.int .u8 0))
    (hsize : i.size = 1) (hby : i.bytes = 1) (hown : w.ownsRow B e 1 (.slice A n c) n xs) (s : ByteArray) (hn : n + s.size ≤ 100000000) (hbase : B ≤ w.heap.size) :
    ∃ A' c' w', (Builtin.append_ #[t, u] ty #[.slice A n c, .string s]).run P w = .ok (.slice A' (n + s.size) c') w' ∧ w'.ownsRow B e 1 (.slice A' (n + s.size) c') (n + s.size) (xs ++ s.data.toList.map byteV) ∧ w.grownBy w' (Value.slice A n c).ownBlock ∧
      ((Value.slice A' (n + s.size) c').ownBlock = (Value.slice A n c).ownBlock ∨ (Value.slice A' (n + s.size) c').ownBlock = some w.heap.size) := by
  obtain ⟨v', w', hrun, h2, h3, h4⟩ := Lib.run_append_own_string (P := P) w B t u ty e i ht hu hi hz hsize hby (.slice A n c) n xs hown s (by unfold maxLen; omega) (by omega) hbase
  obtain ⟨A', c', rfl⟩ := own_form h2
  refine ⟨A', c', w', hrun, h2, h3, ?_⟩
  rcases hown.2 with ⟨hv, rfl⟩ | ⟨g, cap, cur, hv, hbg, hg, hnc, hcm, hcs, htake⟩
  · injection hv with a1 _ a3
    subst a1 a3
    by_cases hm : s.size = 0
    · have := h4.2 ⟨rfl, hm⟩
      left; rw [this]
    · have hr := run_append_nil_string (P := P) w t u ty e i (.int .u8 0) ht hu hi hz s (by omega) (by omega) (by rw [hby]; omega)
      rw [hr] at hrun
      injection hrun with h5 h6
      right
      rw [← h5]; rfl
  · injection hv with a1 a2 a3
    subst a1 a3
    by_cases hroom : n + s.size ≤ c
    · have hcs' : cur.size = c := by simpa using hcs
      have hr := Lib.run_append_room_string (P := P) w t u ty e i ht hu hi hsize g n c cur hg s hroom (by omega)
      rw [hr] at hrun
      injection hrun with h5 h6
      left; rw [← h5]; rfl
    · have hxl : xs.length = n := by simpa using hown.1
      have holds : ∀ j u, xs[j]? = some u → w.cell? ((⟨g, 0, none⟩ : Addr).add j) = some u := hown.cells (g := g) rfl
      have hr := Lib.run_append_grow_string (P := P) w t u ty e i (.int .u8 0) ht hu hi hz ⟨g, 0, none⟩ n c xs (by rw [hsize]; simpa using hxl) holds s (by omega) (by omega) (by rw [hby]; exact growslice_fits (by omega) (by omega))
      rw [hr] at hrun
      injection hrun with h5 h6
      right; rw [← h5]; rfl
end Go.Proofs.Ytbjmojajhkhekaa
