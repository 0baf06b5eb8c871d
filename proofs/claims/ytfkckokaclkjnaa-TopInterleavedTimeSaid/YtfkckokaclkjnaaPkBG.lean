/- packet.Encode: the bytes of a header. -/
import Derived.Test.YtfkckokaclkjnaaPkA
import Derived.Test.YtfkckokaclkjnaaPutG
import Derived.Test.YtfkckokaclkjnaaApp
namespace Go.Proofs.Ytfkckokaclkjnaa
open Go.RowKit

/-- The bytes of a header. -/
def hdHead (l v m s : Nat) (p q : Int) : List UInt8 := [UInt8.ofNat (l * 64 + v * 8 + m), UInt8.ofNat s, UInt8.ofNat (p % 256).toNat, UInt8.ofNat (q % 256).toNat]
def hdBytes (l v m s : Nat) (p q : Int) (h6 h7 h8 h9 h10 h11 h12 : Nat) : List UInt8 :=
  hdHead l v m s p q ++ putL h6 4 ++ putL h7 4 ++ putL h8 4 ++ putL h9 8 ++ putL h10 8 ++ putL h11 8 ++ putL h12 8
theorem first_bits : ∀ l < 4, ∀ v < 8, ∀ m < 8, bits .or .i64 (bits .or .i64 ((l : Nat) * 64 : Int) ((v : Nat) * 8 : Int)) ((m : Nat) : Int) = ((l * 64 + v * 8 + m : Nat) : Int) := by decide +kernel

theorem byteV_nat (n : Nat) (h : n < 256) : byteV (UInt8.ofNat n) = .int .u8 n := by simp [byteV, Nat.mod_eq_of_lt h]
theorem byteV_int (x : Int) (h0 : 0 ≤ x) (h : x < 256) : byteV (UInt8.ofNat x.toNat) = .int .u8 x := by rw [byteV_nat _ (by omega)]; congr 1; omega
theorem hdHead_cells (l v m s : Nat) (p q : Int) (h1 : l ≤ 3) (h2 : v ≤ 4) (h3 : m ≤ 7) (h4 : s ≤ 255) : (hdHead l v m s p q).map byteV = [.int .u8 (l * 64 + v * 8 + m), .int .u8 s, .int .u8 (p % 256), .int .u8 (q % 256)] := by
  have e : ((l * 64 + v * 8 + m : Nat) : Int) = (l : Int) * 64 + (v : Int) * 8 + (m : Int) := by omega
  simp only [hdHead, List.map_cons, List.map_nil]
  rw [byteV_nat _ (by omega), byteV_nat _ (by omega), byteV_int _ (by omega) (by omega), byteV_int _ (by omega) (by omega), e]

end Go.Proofs.Ytfkckokaclkjnaa
