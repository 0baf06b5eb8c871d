import Derived.Deep.RegionHeld3
import Derived.Test.YtiemnacoebkalaaGreatTaV01
set_option linter.all false
set_option maxRecDepth 100000
set_option maxHeartbeats 4000000
namespace Go.Proofs.YtiemnacoebkalaaGreat
open Go.RowKit
def encF (f : Int × List UInt8) : List UInt8 := putL f.1.toNat 2 ++ putL f.2.length 2 ++ f.2
def two (l : List UInt8) : Nat := be64 (l.take 2) 2
theorem two_lt (l : List UInt8) (h : 2 <= l.length) : two l < 65536 := by
 match l, h with
 | a :: b :: t, _ =>
  have := a.toNat_lt; have := b.toNat_lt; simp [two, be64, be]; omega
theorem two_put (v : Nat) (t : List UInt8) (h : v < 65536) : two (putL v 2 ++ t) = v := by
 simp [two, be64, be, putL]; omega
def fldF : Nat -> List UInt8 -> Option (List (Int × List UInt8))
 | 0, _ => some []
 | k + 1, b => if b.length = 0 then some [] else if b.length < 4 then none else if b.length - 4 < two (b.drop 2) then none else
     (fldF k (b.drop (4 + two (b.drop 2)))).map ((((two b : Nat) : Int), (b.drop 4).take (two (b.drop 2))) :: ·)
theorem fldF_nil (k : Nat) : fldF k [] = some [] := by cases k <;> simp [fldF]
theorem fldF_map {k : Nat} {b : List UInt8} {fs : List (Int × List UInt8)} {R : Option (List (Int × List UInt8))} (h : (fldF (k + 1) b).map (fs ++ ·) = R) (h4 : 4 <= b.length) (hq : two (b.drop 2) <= b.length - 4) :
    (fldF k (b.drop (4 + two (b.drop 2)))).map ((fs ++ [(((two b : Nat) : Int), (b.drop 4).take (two (b.drop 2)))]) ++ ·) = R := by
 rw [fldF, if_neg (by omega), if_neg (by omega), if_neg (by omega)] at h; rw [<- h, Option.map_map]
 congr 1
 funext x
 simp
theorem fldF_short {k : Nat} {b : List UInt8} {fs : List (Int × List UInt8)} {R : Option (List (Int × List UInt8))} (h : (fldF k b).map (fs ++ ·) = R) (hk : b.length <= k) (h0 : b.length ≠ 0) (h4 : b.length < 4 ∨ b.length - 4 < two (b.drop 2)) : R = none := by
 cases k with
 | zero => omega
 | succ k =>
  rw [<- h, fldF, if_neg h0]
  by_cases h5 : b.length < 4
  · rw [if_pos h5]; rfl
  · rw [if_neg h5, if_pos (by omega)]; rfl
theorem fldF_write : ∀ (fs : List (Int × List UInt8)) (k : Nat), (∀ f ∈ fs, 0 <= f.1 ∧ f.1 <= 65535 ∧ f.2.length <= 65535) -> (fs.flatMap encF).length <= k -> fldF k (fs.flatMap encF) = some fs
 | [], k, _, _ => by simpa using fldF_nil k
 | f :: fs, k, h, hk => by
  have hf := h f (by simp); have e : (f :: fs).flatMap encF = putL f.1.toNat 2 ++ (putL f.2.length 2 ++ (f.2 ++ fs.flatMap encF)) := by simp [encF]
  have e2 : (putL f.1.toNat 2 ++ (putL f.2.length 2 ++ (f.2 ++ fs.flatMap encF))).drop 2 = putL f.2.length 2 ++ (f.2 ++ fs.flatMap encF) := by
   rw [List.drop_append_of_le_length (by simp [putL_length])]; simp [putL]
  have e4 : (putL f.1.toNat 2 ++ (putL f.2.length 2 ++ (f.2 ++ fs.flatMap encF))).drop 4 = f.2 ++ fs.flatMap encF := by
   rw [show 4 = 2 + 2 from rfl, <- List.drop_drop, e2, List.drop_append_of_le_length (by simp [putL_length])]; simp [putL]
  rw [e] at hk ⊢; have hl : (putL f.1.toNat 2 ++ (putL f.2.length 2 ++ (f.2 ++ fs.flatMap encF))).length = 4 + (f.2.length + (fs.flatMap encF).length) := by simp only [List.length_append, putL_length]; omega
  rw [hl] at hk
  cases k with
  | zero => omega
  | succ k =>
   rw [fldF, hl, if_neg (by omega), if_neg (by omega), e2, two_put _ _ (by omega), if_neg (by omega), two_put _ _ (by omega), e4, <- List.drop_drop, e4, List.drop_left, List.take_left, fldF_write fs k (fun g hg => h g (by simp [hg])) (by omega)]; simp only [Option.map_some, Option.some.injEq, List.cons.injEq, and_true]
   ext
   · simp; omega
   · rfl
def encFld (f : Int × List UInt8) (A : Option Addr) (n c : Nat) : List Value := [.int .i64 f.1, .slice A n c]
theorem OwnItems.flds {e : TypeId} {w : World} {B n c : Nat} {A : Option Addr} {fs : List (Int × List UInt8)} (h : OwnItems 2 encFld Prod.snd e w B A n c fs) : FldL w A n c fs := by
 have hl := h.len (by decide); obtain ⟨vs, h1, h2⟩ := h.rd; refine ⟨vs, h1, hl, fun i f hf => ?_⟩; obtain ⟨A', n', c', e1, e2, _⟩ := h2.2 i f hf; have a0 := e1 0 (by omega); have a1 := e1 1 (by omega); simp [encFld] at a0 a1; exact ⟨A', n', c', a0, a1, e2⟩
theorem rd_pair (w : World) (a b : Value) (e : TypeId) : Rd (w.alloc (.cells #[a, b] e)) 2 (some ⟨w.heap.size, 0, none⟩) 1 1 [a, b] := by
 refine ⟨rfl, Nat.le_refl _, by decide, fun i u hu => ⟨w.heap.size, 0, rfl, ?_⟩⟩; rw [Nat.zero_add, cell_of_row _ _ _ _ _ (0, 0) (heap_alloc_new _ _), <- hu]; simp
def slLen : Value -> Nat
 | .slice _ n _ => n
 | _ => 0
theorem infoFld : (Tryz.prog.info? 97).map (fun i => (i.zero, i.size, i.bytes)) = some (some (.agg #[.int .i64 0, .slice none 0 0]), 2, 32) := by kernel_rfl
def exSz (n : Nat) : Nat := max 16 ((4 + n + 3) / 4 * 4)
theorem exSz_ge (n : Nat) : 4 + n <= exSz n ∧ 16 <= exSz n ∧ exSz n % 4 = 0 := by unfold exSz; omega
def encX (f : Int × List UInt8) : List UInt8 := putL f.1.toNat 2 ++ putL (exSz f.2.length) 2 ++ f.2 ++ List.replicate (exSz f.2.length - (4 + f.2.length)) 0
theorem encX_length (f : Int × List UInt8) : (encX f).length = exSz f.2.length := by
 have := exSz_ge f.2.length; simp only [encX, List.length_append, putL_length, List.length_replicate]; omega
def sizeX (f : Int × List UInt8) : Nat × Int := if f.1 < 0 ∨ 65535 < f.1 then (0, 4) else if 1232 < exSz f.2.length then (0, 2) else (exSz f.2.length, 0)
theorem sizeX_ok {f : Int × List UInt8} (h : (sizeX f).2 = 0) : 0 <= f.1 ∧ f.1 <= 65535 ∧ exSz f.2.length <= 1232 ∧ (sizeX f).1 = exSz f.2.length := by
 unfold sizeX at h ⊢
 by_cases h1 : f.1 < 0 ∨ 65535 < f.1
 · rw [if_pos h1] at h; cases h
 · rw [if_neg h1] at h ⊢
   by_cases h2 : 1232 < exSz f.2.length
   · rw [if_pos h2] at h; cases h
   · rw [if_neg h2]; exact ⟨by omega, by omega, by omega, rfl⟩
theorem sizeX_of {f : Int × List UInt8} (h1 : 0 <= f.1) (h2 : f.1 <= 65535) (h3 : exSz f.2.length <= 1232) : sizeX f = (exSz f.2.length, 0) := by
 unfold sizeX; rw [if_neg (by omega), if_neg (by omega)]
def errX : List (Int × List UInt8) -> Int
 | [] => 0
 | f :: fs => if (sizeX f).2 = 0 then errX fs else (sizeX f).2
def totX : List (Int × List UInt8) -> Nat
 | [] => 0
 | f :: fs => exSz f.2.length + totX fs
theorem totX_flat : ∀ fs : List (Int × List UInt8), (fs.flatMap encX).length = totX fs
 | [] => rfl
 | f :: fs => by rw [List.flatMap_cons, List.length_append, encX_length, totX_flat fs, totX]
theorem totX_append : ∀ a b : List (Int × List UInt8), totX (a ++ b) = totX a + totX b
 | [], b => by simp [totX]
 | f :: a, b => by rw [List.cons_append, totX, totX, totX_append a b]; omega
theorem errX_append : ∀ a b : List (Int × List UInt8), errX a = 0 -> errX (a ++ b) = errX b
 | [], b, _ => rfl
 | f :: a, b, h => by
  rw [errX] at h
  by_cases h0 : (sizeX f).2 = 0
  · rw [if_pos h0] at h; rw [List.cons_append, errX, if_pos h0, errX_append a b h]
  · rw [if_neg h0] at h; exact absurd h h0
theorem errX_all : ∀ a : List (Int × List UInt8), (∀ f ∈ a, 0 <= f.1 ∧ f.1 <= 65535 ∧ exSz f.2.length <= 1232) -> errX a = 0
 | [], _ => rfl
 | f :: a, h => by
  have hf := h f (by simp); rw [errX, sizeX_of hf.1 hf.2.1 hf.2.2, if_pos rfl]; exact errX_all a fun g hg => h g (by simp [hg])
theorem errX_ok : ∀ a : List (Int × List UInt8), errX a = 0 -> ∀ f ∈ a, (sizeX f).2 = 0
 | [], _, f, h => by cases h
 | g :: a, h, f, hf => by
  rw [errX] at h
  by_cases h0 : (sizeX g).2 = 0
  · rw [if_pos h0] at h; rcases List.mem_cons.1 hf with rfl | hf
    · exact h0
    · exact errX_ok a h f hf
  · rw [if_neg h0] at h; exact absurd h h0
def encodeX (fs : List (Int × List UInt8)) : List UInt8 × Int :=
 if errX fs = 0 then (if 24 < fs.length then ([], 8) else if 1232 < totX fs then ([], 2) else (fs.flatMap encX, 0)) else ([], errX fs)
theorem encodeX_ok {fs : List (Int × List UInt8)} (h1 : errX fs = 0) (h2 : fs.length <= 24) (h3 : totX fs <= 1232) : encodeX fs = (fs.flatMap encX, 0) := by
 rw [encodeX, if_pos h1, if_neg (by omega), if_neg (by omega)]

def wkX : Nat -> Nat -> Nat -> List UInt8 -> Int × List (Nat × (Int × List UInt8))
 | 0, _, _, _ => (0, [])
 | m + 1, p, k, b => if b.length = 0 then (0, []) else if b.length < 4 then (1, []) else
     if two (b.drop 2) % 4 ≠ 0 ∨ two (b.drop 2) < 16 then (3, []) else if b.length < two (b.drop 2) then (1, []) else if k = 24 then (8, []) else
     ((wkX m (p + two (b.drop 2)) (k + 1) (b.drop (two (b.drop 2)))).1, (p, (((two b : Nat) : Int), (b.drop 4).take (two (b.drop 2) - 4))) :: (wkX m (p + two (b.drop 2)) (k + 1) (b.drop (two (b.drop 2)))).2)
theorem wkX_nil (m p k : Nat) : wkX m p k [] = (0, []) := by cases m <;> simp [wkX]
theorem wkX_short {m p k : Nat} {b : List UInt8} (h0 : b.length ≠ 0) (h : b.length < 4) : wkX (m + 1) p k b = (1, []) := by rw [wkX, if_neg h0, if_pos h]
theorem wkX_form {m p k : Nat} {b : List UInt8} (h0 : 4 <= b.length) (h : two (b.drop 2) % 4 ≠ 0 ∨ two (b.drop 2) < 16) : wkX (m + 1) p k b = (3, []) := by rw [wkX, if_neg (by omega), if_neg (by omega), if_pos h]
theorem wkX_less {m p k : Nat} {b : List UInt8} (h0 : 4 <= b.length) (h1 : two (b.drop 2) % 4 = 0) (h2 : 16 <= two (b.drop 2)) (h : b.length < two (b.drop 2)) : wkX (m + 1) p k b = (1, []) := by
 rw [wkX, if_neg (by omega), if_neg (by omega), if_neg (by omega), if_pos h]
theorem wkX_limit {m p k : Nat} {b : List UInt8} (h0 : 4 <= b.length) (h1 : two (b.drop 2) % 4 = 0) (h2 : 16 <= two (b.drop 2)) (h : two (b.drop 2) <= b.length) (hk : k = 24) : wkX (m + 1) p k b = (8, []) := by
 rw [wkX, if_neg (by omega), if_neg (by omega), if_neg (by omega), if_neg (by omega), if_pos hk]
theorem wkX_step {m p k : Nat} {b : List UInt8} (h0 : 4 <= b.length) (h1 : two (b.drop 2) % 4 = 0) (h2 : 16 <= two (b.drop 2)) (h : two (b.drop 2) <= b.length) (hk : k < 24) :
    wkX (m + 1) p k b = ((wkX m (p + two (b.drop 2)) (k + 1) (b.drop (two (b.drop 2)))).1, (p, (((two b : Nat) : Int), (b.drop 4).take (two (b.drop 2) - 4))) :: (wkX m (p + two (b.drop 2)) (k + 1) (b.drop (two (b.drop 2)))).2) := by
 rw [wkX, if_neg (by omega), if_neg (by omega), if_neg (by omega), if_neg (by omega), if_neg (by omega)]
def readX (b : List UInt8) : Int × List (Nat × (Int × List UInt8)) := if 1232 < b.length then (2, []) else wkX b.length 0 0 b
def padX (f : Int × List UInt8) : Int × List UInt8 := (f.1, f.2 ++ List.replicate (exSz f.2.length - (4 + f.2.length)) 0)
theorem drop_encX (f : Int × List UInt8) (t : List UInt8) : ((encX f ++ t).drop 2 = putL (exSz f.2.length) 2 ++ (f.2 ++ List.replicate (exSz f.2.length - (4 + f.2.length)) 0 ++ t)) ∧
    ((encX f ++ t).drop 4 = f.2 ++ List.replicate (exSz f.2.length - (4 + f.2.length)) 0 ++ t) := by
 have e : encX f ++ t = putL f.1.toNat 2 ++ (putL (exSz f.2.length) 2 ++ (f.2 ++ List.replicate (exSz f.2.length - (4 + f.2.length)) 0 ++ t)) := by simp [encX]
 have e2 : (encX f ++ t).drop 2 = putL (exSz f.2.length) 2 ++ (f.2 ++ List.replicate (exSz f.2.length - (4 + f.2.length)) 0 ++ t) := by
  rw [e, List.drop_append_of_le_length (by simp [putL_length])]; simp [putL]
 refine ⟨e2, ?_⟩; rw [show 4 = 2 + 2 from rfl, <- List.drop_drop, e2, List.drop_append_of_le_length (by simp [putL_length])]; simp [putL]
def placesX : Nat -> List (Int × List UInt8) -> List (Nat × (Int × List UInt8))
 | _, [] => []
 | p, f :: fs => (p, padX f) :: placesX (p + exSz f.2.length) fs
theorem placesX_length : ∀ (p : Nat) (fs : List (Int × List UInt8)), (placesX p fs).length = fs.length
 | _, [] => rfl
 | p, f :: fs => by rw [placesX, List.length_cons, placesX_length, List.length_cons]
theorem placesX_map : ∀ (p : Nat) (fs : List (Int × List UInt8)), (placesX p fs).map Prod.snd = fs.map padX
 | _, [] => rfl
 | p, f :: fs => by rw [placesX, List.map_cons, placesX_map, List.map_cons]
theorem wkX_enc : ∀ (fs : List (Int × List UInt8)) (m p k : Nat), (∀ f ∈ fs, 0 <= f.1 ∧ f.1 <= 65535 ∧ exSz f.2.length <= 1232) -> (fs.flatMap encX).length <= m -> k + fs.length <= 24 -> wkX m p k (fs.flatMap encX) = (0, placesX p fs)
 | [], m, p, k, _, _, _ => by simpa [placesX] using wkX_nil m p k
 | f :: fs, m, p, k, h, hm, hk => by
  have hf := h f (by simp); obtain ⟨d2, d4⟩ := drop_encX f (fs.flatMap encX); have hz := exSz_ge f.2.length; have hl : (encX f ++ fs.flatMap encX).length = exSz f.2.length + (fs.flatMap encX).length := by rw [List.length_append, encX_length]
  have t1 : two (encX f ++ fs.flatMap encX) = f.1.toNat := by
   rw [show encX f ++ fs.flatMap encX = putL f.1.toNat 2 ++ (putL (exSz f.2.length) 2 ++ (f.2 ++ List.replicate (exSz f.2.length - (4 + f.2.length)) 0 ++ fs.flatMap encX)) by simp [encX]]; exact two_put _ _ (by omega)
  have t2 : two ((encX f ++ fs.flatMap encX).drop 2) = exSz f.2.length := by rw [d2]; exact two_put _ _ (by omega)
  have d5 : (encX f ++ fs.flatMap encX).drop (exSz f.2.length) = fs.flatMap encX := by rw [<- encX_length f, List.drop_left]
  have d6 : ((encX f ++ fs.flatMap encX).drop 4).take (exSz f.2.length - 4) = f.2 ++ List.replicate (exSz f.2.length - (4 + f.2.length)) 0 := by
   rw [d4, List.take_left' (by simp; omega)]
  rw [List.flatMap_cons] at hm ⊢; rw [hl] at hm; simp only [List.length_cons] at hk
  cases m with
  | zero => omega
  | succ m =>
   rw [wkX_step (by rw [hl]; omega) (by rw [t2]; exact hz.2.2) (by rw [t2]; exact hz.2.1) (by rw [t2, hl]; omega) (by omega), t1, t2, d5, d6, wkX_enc fs m _ _ (fun g hg => h g (by simp [hg])) (by omega) (by omega)]; simp only [placesX, Prod.mk.injEq, List.cons.injEq, padX, and_true, true_and]; omega
theorem readX_enc {fs : List (Int × List UInt8)} (h : ∀ f ∈ fs, 0 <= f.1 ∧ f.1 <= 65535 ∧ exSz f.2.length <= 1232) (h1 : fs.length <= 24) (h2 : totX fs <= 1232) : readX (fs.flatMap encX) = (0, placesX 0 fs) := by
 rw [readX, if_neg (by rw [totX_flat]; omega), wkX_enc fs _ _ _ h (Nat.le_refl _) (by omega)]
end Go.Proofs.YtiemnacoebkalaaGreat
