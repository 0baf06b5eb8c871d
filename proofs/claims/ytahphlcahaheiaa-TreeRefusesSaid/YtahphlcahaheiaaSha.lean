/- SHA-256 in plain Lean, over the model's words, and its laws: no program in sight. -/
import Derived.Test.YtahphlcahaheiaaBase
namespace Go.Proofs.Ytahphlcahaheiaa
open Go.RowKit

def rotI (x : Int) (k : Nat) : Int := bits .or .u32 (x / 2 ^ k) (IntKind.u32.wrap (x * 2 ^ (32 - k)))
def xo (a b : Int) : Int := bits .xor .u32 a b
def an (a b : Int) : Int := bits .and .u32 a b
def w32 (x : Int) : Int := x % 4294967296
/-- The eight words. -/
structure St where
  a : Int
  b : Int
  c : Int
  d : Int
  e : Int
  f : Int
  g : Int
  h : Int
def sg0 (x : Int) : Int := xo (xo (rotI x 7) (rotI x 18)) (x / 8)
def sg1 (x : Int) : Int := xo (xo (rotI x 17) (rotI x 19)) (x / 1024)
def bs0 (x : Int) : Int := xo (xo (rotI x 2) (rotI x 13)) (rotI x 22)
def bs1 (x : Int) : Int := xo (xo (rotI x 6) (rotI x 11)) (rotI x 25)
def chI (e f g : Int) : Int := xo (an e f) (an (xo 4294967295 e) g)
def majI (a b c : Int) : Int := xo (xo (an a b) (an a c)) (an b c)
def t1I (s : St) (k w : Int) : Int := w32 (s.h + bs1 s.e + chI s.e s.f s.g + k + w)
def t2I (s : St) : Int := w32 (bs0 s.a + majI s.a s.b s.c)
def step (s : St) (k w : Int) : St := ⟨w32 (t1I s k w + t2I s), s.a, s.b, s.c, w32 (s.d + t1I s k w), s.e, s.f, s.g⟩
def kTab : List Int := [
  0x428a2f98, 0x71374491, 0xb5c0fbcf, 0xe9b5dba5, 0x3956c25b, 0x59f111f1, 0x923f82a4, 0xab1c5ed5,
  0xd807aa98, 0x12835b01, 0x243185be, 0x550c7dc3, 0x72be5d74, 0x80deb1fe, 0x9bdc06a7, 0xc19bf174,
  0xe49b69c1, 0xefbe4786, 0x0fc19dc6, 0x240ca1cc, 0x2de92c6f, 0x4a7484aa, 0x5cb0a9dc, 0x76f988da,
  0x983e5152, 0xa831c66d, 0xb00327c8, 0xbf597fc7, 0xc6e00bf3, 0xd5a79147, 0x06ca6351, 0x14292967,
  0x27b70a85, 0x2e1b2138, 0x4d2c6dfc, 0x53380d13, 0x650a7354, 0x766a0abb, 0x81c2c92e, 0x92722c85,
  0xa2bfe8a1, 0xa81a664b, 0xc24b8b70, 0xc76c51a3, 0xd192e819, 0xd6990624, 0xf40e3585, 0x106aa070,
  0x19a4c116, 0x1e376c08, 0x2748774c, 0x34b0bcb5, 0x391c0cb3, 0x4ed8aa4a, 0x5b9cca4f, 0x682e6ff3,
  0x748f82ee, 0x78a5636f, 0x84c87814, 0x8cc70208, 0x90befffa, 0xa4506ceb, 0xbef9a3f7, 0xc67178f2]
def firstS : St := ⟨0x6a09e667, 0xbb67ae85, 0x3c6ef372, 0xa54ff53a, 0x510e527f, 0x9b05688c, 0x1f83d9ab, 0x5be0cd19⟩
def wAt (l : List Int) (i : Nat) : Int := l.getD i 0
def wordAt (b : List UInt8) (t : Nat) : Int := byteAt b (4 * t) * 16777216 + byteAt b (4 * t + 1) * 65536 + byteAt b (4 * t + 2) * 256 + byteAt b (4 * t + 3)
/-- The next word behind the first n. -/
def nextW (b : List UInt8) (l : List Int) (n : Nat) : Int :=
  if n < 16 then wordAt b n else w32 (sg1 (wAt l (n - 2)) + wAt l (n - 7) + sg0 (wAt l (n - 15)) + wAt l (n - 16))
def sched (b : List UInt8) : Nat → List Int
  | 0 => []
  | n + 1 => sched b n ++ [nextW b (sched b n) n]
def rounds (h : St) (ws : List Int) : Nat → St
  | 0 => h
  | n + 1 => step (rounds h ws n) (wAt kTab n) (wAt ws n)
def addS (s t : St) : St := ⟨w32 (s.a + t.a), w32 (s.b + t.b), w32 (s.c + t.c), w32 (s.d + t.d), w32 (s.e + t.e), w32 (s.f + t.f), w32 (s.g + t.g), w32 (s.h + t.h)⟩
def blk (h : St) (b : List UInt8) : St := addS h (rounds h (sched b 64) 64)
/-- The words behind the first j whole blocks. -/
def blocksL (h : St) (b : List UInt8) : Nat → St
  | 0 => h
  | j + 1 => blk (blocksL h b j) ((b.drop (64 * j)).take 64)
def padN (n : Nat) : Nat := if n + 9 ≤ 64 then 55 - n else 119 - n
def padL (n count : Nat) : List UInt8 := 128 :: (List.replicate (padN n) 0 ++ putL (count * 8 % 18446744073709551616) 8)
def outL (h : St) : List UInt8 := putL h.a.toNat 4 ++ putL h.b.toNat 4 ++ putL h.c.toNat 4 ++ putL h.d.toNat 4 ++ putL h.e.toNat 4 ++ putL h.f.toNat 4 ++ putL h.g.toNat 4 ++ putL h.h.toNat 4
def finL (h : St) (rest : List UInt8) (count : Nat) : List UInt8 := outL (blocksL h (rest ++ padL rest.length count) (if rest.length + 9 ≤ 64 then 1 else 2))
def wholeS (b : List UInt8) : St := blocksL firstS b (b.length / 64)
def restL (b : List UInt8) : List UInt8 := b.drop (64 * (b.length / 64))
def sumL (b : List UInt8) : List UInt8 := finL (wholeS b) (restL b) b.length
def shortL (b : List UInt8) : List UInt8 := (sumL b).take 16
def chainL (b : List UInt8) : Nat → List UInt8
  | 0 => b
  | n + 1 => shortL (chainL b n)

/-- A word lies in its range. -/
def InW (x : Int) : Prop := 0 ≤ x ∧ x < 4294967296
def InS (s : St) : Prop := InW s.a ∧ InW s.b ∧ InW s.c ∧ InW s.d ∧ InW s.e ∧ InW s.f ∧ InW s.g ∧ InW s.h
theorem w32_in (x : Int) : InW (w32 x) := by unfold InW w32; omega
theorem bits_in (o : BinOp) (a b : Int) : InW (bits o .u32 a b) := ⟨bits_lo_u32 o a b, by have := bits_hi_u32 o a b; omega⟩
theorem rot_in (x : Int) (k : Nat) : InW (rotI x k) := bits_in _ _ _
theorem step_in {s : St} (h : InS s) (k w : Int) : InS (step s k w) := by
  obtain ⟨a, b, c, d, e, f, g, hh⟩ := h
  exact ⟨w32_in _, a, b, c, w32_in _, e, f, g⟩
theorem rounds_in {h : St} (hi : InS h) (ws : List Int) : ∀ n, InS (rounds h ws n)
  | 0 => hi
  | n + 1 => step_in (rounds_in hi ws n) _ _
theorem addS_in (s t : St) : InS (addS s t) := ⟨w32_in _, w32_in _, w32_in _, w32_in _, w32_in _, w32_in _, w32_in _, w32_in _⟩
theorem blk_in (h : St) (b : List UInt8) : InS (blk h b) := addS_in _ _
theorem blocks_in {h : St} (hi : InS h) (b : List UInt8) : ∀ n, InS (blocksL h b n)
  | 0 => hi
  | _ + 1 => blk_in _ _
theorem first_in : InS firstS := by unfold InS InW firstS; decide
theorem sched_len (b : List UInt8) : ∀ n, (sched b n).length = n
  | 0 => rfl
  | n + 1 => by simp [sched, sched_len b n]
theorem wordAt_in (b : List UInt8) (t : Nat) : InW (wordAt b t) := by
  have := byteAt_lt b (4 * t); have := byteAt_lt b (4 * t + 1); have := byteAt_lt b (4 * t + 2); have := byteAt_lt b (4 * t + 3)
  unfold InW wordAt; omega
theorem nextW_in (b : List UInt8) (l : List Int) (n : Nat) : InW (nextW b l n) := by
  unfold nextW; split
  · exact wordAt_in _ _
  · exact w32_in _
theorem sched_in (b : List UInt8) : ∀ n, ∀ x ∈ sched b n, InW x
  | 0 => by simp [sched]
  | n + 1 => by
    intro x hx
    rw [sched, List.mem_append] at hx
    rcases hx with h | h
    · exact sched_in b n x h
    · simp at h; subst h; exact nextW_in _ _ _
theorem wAt_in {l : List Int} (h : ∀ x ∈ l, InW x) (i : Nat) : InW (wAt l i) := by
  unfold wAt
  rcases Nat.lt_or_ge i l.length with hi | hi
  · have : l.getD i 0 = l[i] := by simp [List.getD, hi]
    rw [this]; exact h _ (List.getElem_mem hi)
  · have : l.getD i 0 = 0 := by simp [List.getD, hi]
    rw [this]; unfold InW; omega
theorem kTab_in : ∀ x ∈ kTab, InW x := by unfold InW; decide
theorem sched_at (b : List UInt8) (t : Nat) : ∀ n, t < n → wAt (sched b n) t = nextW b (sched b t) t
  | 0, h => by omega
  | n + 1, h => by
    by_cases e : t = n
    · subst e
      unfold wAt
      simp [sched, List.getD, sched_len]
    · unfold wAt
      have h2 : t < (sched b n).length := by rw [sched_len]; omega
      have := sched_at b t n (by omega)
      unfold wAt at this
      rw [sched, List.getD, List.getElem?_append_left h2]
      exact this
theorem outL_length (h : St) : (outL h).length = 32 := by simp [outL, putL_length]
theorem finL_length (h : St) (r : List UInt8) (c : Nat) : (finL h r c).length = 32 := outL_length _
theorem sumL_length (b : List UInt8) : (sumL b).length = 32 := finL_length _ _ _
theorem shortL_length (b : List UInt8) : (shortL b).length = 16 := by simp [shortL, sumL_length]
theorem chainL_add (b : List UInt8) (n : Nat) : ∀ m, chainL (chainL b n) m = chainL b (n + m)
  | 0 => rfl
  | m + 1 => by rw [chainL, chainL_add b n m]; rfl
theorem chainL_length (b : List UInt8) : ∀ n, 0 < n → (chainL b n).length = 16
  | 0, h => by omega
  | n + 1, _ => shortL_length _
theorem padL_length (n c : Nat) (h : n < 64) : n + (padL n c).length = if n + 9 ≤ 64 then 64 else 128 := by
  simp only [padL, padN, List.length_cons, List.length_append, List.length_replicate, putL_length]
  split <;> omega

/-- The words behind more blocks. -/
theorem blocksL_add (h : St) (b : List UInt8) (m : Nat) : ∀ j, blocksL (blocksL h b m) (b.drop (64 * m)) j = blocksL h b (m + j)
  | 0 => rfl
  | j + 1 => by
    rw [blocksL, blocksL_add h b m j, ← Nat.add_assoc, blocksL, List.drop_drop, Nat.mul_add]
theorem blocksL_take (h : St) (a b : List UInt8) : ∀ j, 64 * j ≤ a.length → blocksL h (a ++ b) j = blocksL h a j
  | 0, _ => rfl
  | j + 1, hj => by
    rw [blocksL, blocksL, blocksL_take h a b j (by omega), List.drop_append, List.take_append_of_le_length]
    rw [List.length_drop]; omega
/-- In parts: the words of all, and the rest. -/
theorem wholeS_parts (a b : List UInt8) : blocksL (wholeS a) (restL a ++ b) ((restL a ++ b).length / 64) = wholeS (a ++ b) ∧ (restL a ++ b).drop (64 * ((restL a ++ b).length / 64)) = restL (a ++ b) := by
  have hd : (a ++ b).drop (64 * (a.length / 64)) = restL a ++ b := by
    rw [restL, List.drop_append]
    have : 64 * (a.length / 64) - a.length = 0 := by omega
    rw [this, List.drop_zero]
  have hl : (restL a ++ b).length / 64 + a.length / 64 = (a ++ b).length / 64 := by
    rw [List.length_append, List.length_append, restL, List.length_drop]; omega
  refine ⟨?_, ?_⟩
  · unfold wholeS
    rw [← blocksL_take firstS a b (a.length / 64) (by omega), ← hd, blocksL_add]
    congr 1
    rw [hd]; omega
  · unfold restL at hd ⊢
    rw [← hd, List.drop_drop]
    congr 1
    rw [hd]
    have := hl
    unfold restL at this
    omega
theorem restL_length (b : List UInt8) : (restL b).length = b.length % 64 := by rw [restL, List.length_drop]; omega
theorem sum_abc : sumL [97, 98, 99] = [0xba, 0x78, 0x16, 0xbf, 0x8f, 0x01, 0xcf, 0xea, 0x41, 0x41, 0x40, 0xde, 0x5d, 0xae, 0x22, 0x23, 0xb0, 0x03, 0x61, 0xa3, 0x96, 0x17, 0x7a, 0x9c, 0xb4, 0x10, 0xff, 0x61, 0xf2, 0x00, 0x15, 0xad] := by decide +kernel
end Go.Proofs.Ytahphlcahaheiaa
