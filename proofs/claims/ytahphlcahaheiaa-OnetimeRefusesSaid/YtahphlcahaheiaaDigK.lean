/- The walk of OnetimeDigits. -/
import Derived.Test.YtahphlcahaheiaaDigL
import Derived.Test.YtahphlcahaheiaaRefJoin
import Derived.Test.YtahphlcahaheiaaSame
import Derived.Test.YtahphlcahaheiaaReg
namespace Go.Proofs.Ytahphlcahaheiaa
open Go.RowKit

theorem digits_err (A : Option Addr) (n c : Nat) (w : World) (hn : ¬ n = 16) :
    Calls Try.prog 16 #[.slice A n c] w fun e w' => e = .returned (.tuple #[.slice none 0 0, .int .i64 3]) ∧ w = w' := by
  have hn' : ¬ (n : Int) = 16 := by omega
  go_enter Try.func16, Try.ntmps16
  go_wp2
  go_returns
  exact ⟨rfl, rfl⟩

theorem row35 {w : World} {A : Option Addr} {c : Nat} {l : List UInt8} (h : Rd w 1 A 35 c ((allD l).map numV)) (hl : l.length = 16) :
    ∃ b off, A = some ⟨b, off, none⟩ ∧ ∀ i, i < 35 → w.cell? ⟨b, off + i, none⟩ = some (.int .i64 (digN l i)) := by
  have hlen := allD_length l hl
  have at_ : ∀ i, i < 35 → ((allD l).map numV)[i]? = some (.int .i64 (digN l i)) := by
    intro i hi
    rw [List.getElem?_map, List.getElem?_eq_getElem (by omega), digN, getD_in (by omega)]
    rfl
  obtain ⟨b, off, rfl, _⟩ := h.2.2.2 0 _ (at_ 0 (by omega))
  refine ⟨b, off, rfl, fun i hi => ?_⟩
  obtain ⟨b2, off2, e, hc⟩ := h.2.2.2 i _ (at_ i hi)
  simp only [Option.some.injEq, Addr.mk.injEq] at e
  obtain ⟨rfl, rfl, _⟩ := e
  exact hc

theorem zeros (n : Nat) : madeCells #[Value.int .u8 0] n = ((List.replicate n (0 : UInt8)).map byteV).toArray := by
  apply Array.toList_inj.1
  rw [toList_madeCells_one]
  simp [byteV]
theorem zeros_read (w : World) (n : Nat) (hn : n ≤ 1000) : Bytes (w.alloc (.cells (madeCells #[.int .u8 0] n) 5)) (some ⟨w.heap.size, 0, none⟩) n n (List.replicate n 0) := by
  rw [zeros]
  have := Bytes.made (w := w) (l := List.replicate n 0) (E := 5) (by rw [List.length_replicate]; exact Nat.le_trans hn (by decide))
  rwa [List.length_replicate] at this

set_option maxRecDepth 100000 in
set_option maxHeartbeats 1000000 in
theorem oneKnown (w : World) : Calls Try.prog 18 #[] w fun e w' => e = .returned (.bool true) ∧ Below w.heap.size w w' := by
  have hmk : (Instr.makeSlice 22 (.int .i64 16) (.int .i64 16)).run Try.prog w = .ok (.slice (some ⟨w.heap.size, 0, none⟩) 16 16) (w.alloc (.cells (madeCells #[.int .u8 0] 16) 5)) := make_bytes 16 (by omega) w
  go_enter Try.func18, Try.ntmps18
  go_wp2_with fail
  refine (digits_any _ _ _ _ (zeros_read w 16 (by omega))).mono ?_
  rintro e w1 ⟨A, c, rfl, hr, hb⟩
  obtain ⟨b, off, rfl, hc⟩ := row35 hr (by simp)
  have h0 : w1.cell? ⟨b, off, none⟩ = some (.int .i64 0) := by have := hc 0 (by omega); rwa [show digN (List.replicate 16 0) 0 = 0 by decide +kernel] at this
  have h32 : w1.cell? ⟨b, off + 32, none⟩ = some (.int .i64 1) := by have := hc 32 (by omega); rwa [show digN (List.replicate 16 0) 32 = 1 by decide +kernel] at this
  have h33 : w1.cell? ⟨b, off + 33, none⟩ = some (.int .i64 14) := by have := hc 33 (by omega); rwa [show digN (List.replicate 16 0) 33 = 14 by decide +kernel] at this
  have h34 : w1.cell? ⟨b, off + 34, none⟩ = some (.int .i64 0) := by have := hc 34 (by omega); rwa [show digN (List.replicate 16 0) 34 = 0 by decide +kernel] at this
  have hle := hr.2.1
  clear hc hr
  have hB : Below w.heap.size w w1 := below_via (by go_grown) hb (by simp)
  clear hb
  go_wp2_with fail
  go_ret
  exact ⟨rfl, hB⟩

end Go.Proofs.Ytahphlcahaheiaa
