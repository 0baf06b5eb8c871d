/- A result that is a header (13 cells): read out of its block. -/
import Derived.Test.YtfkckokaclkjnaaBlk
namespace Go.Proofs.Ytfkckokaclkjnaa
open Go.RowKit

section
variable {W : World} {g : Nat} {a0 a1 a2 a3 a4 a5 a6 a7 a8 a9 a10 a11 a12 v0 v1 v2 v3 v4 v5 v6 v7 v8 v9 v10 v11 v12 : Value}
theorem load_hd (hB : Blk W g 35 #[a0, a1, a2, a3, a4, a5, a6, a7, a8, a9, a10, a11, a12]) :
    (loadVar 35 ⟨g, 0, none⟩).run Try.prog W = .ok (.agg #[a0, a1, a2, a3, a4, a5, a6, a7, a8, a9, a10, a11, a12]) W := by
  have h0 := hB.cell 0
  have h1 := hB.cell 1
  have h2 := hB.cell 2
  have h3 := hB.cell 3
  have h4 := hB.cell 4
  have h5 := hB.cell 5
  have h6 := hB.cell 6
  have h7 := hB.cell 7
  have h8 := hB.cell 8
  have h9 := hB.cell 9
  have h10 := hB.cell 10
  have h11 := hB.cell 11
  have h12 := hB.cell 12
  simp at h0 h1 h2 h3 h4 h5 h6 h7 h8 h9 h10 h11 h12
  simp [go_sem, *]
theorem store_hd (hB : Blk W g 35 #[a0, a1, a2, a3, a4, a5, a6, a7, a8, a9, a10, a11, a12]) : Blk (((((((((((((W.setCell ⟨g, 0, none⟩ v0).setCell ⟨g, 1, none⟩ v1).setCell ⟨g, 2, none⟩ v2).setCell ⟨g, 3, none⟩ v3).setCell ⟨g, 4, none⟩ v4).setCell ⟨g, 5, none⟩ v5).setCell ⟨g, 6, none⟩ v6).setCell ⟨g, 7, none⟩ v7).setCell ⟨g, 8, none⟩ v8).setCell ⟨g, 9, none⟩ v9).setCell ⟨g, 10, none⟩ v10).setCell ⟨g, 11, none⟩ v11).setCell ⟨g, 12, none⟩ v12) g 35 #[v0, v1, v2, v3, v4, v5, v6, v7, v8, v9, v10, v11, v12] := by
  have := (((((((((((((hB.put 0 v0).put 1 v1).put 2 v2).put 3 v3).put 4 v4).put 5 v5).put 6 v6).put 7 v7).put 8 v8).put 9 v9).put 10 v10).put 11 v11).put 12 v12)
  simpa using this
theorem results_hd1 {fn : Func} {r t u : Tmp} (h : fn.results = #[.cell r 35]) (tmps : Array Value) (ht : tmps.getD r undef = .pointer (some ⟨g, 0, none⟩)) (hB : Blk W g 35 #[a0, a1, a2, a3, a4, a5, a6, a7, a8, a9, a10, a11, a12]) :
    (results fn tmps).run Try.prog W = .ok (.agg #[a0, a1, a2, a3, a4, a5, a6, a7, a8, a9, a10, a11, a12]) W := by
  have h0 := hB.cell 0
  have h1 := hB.cell 1
  have h2 := hB.cell 2
  have h3 := hB.cell 3
  have h4 := hB.cell 4
  have h5 := hB.cell 5
  have h6 := hB.cell 6
  have h7 := hB.cell 7
  have h8 := hB.cell 8
  have h9 := hB.cell 9
  have h10 := hB.cell 10
  have h11 := hB.cell 11
  have h12 := hB.cell 12
  simp at h0 h1 h2 h3 h4 h5 h6 h7 h8 h9 h10 h11 h12
  simp only [Array.getD_eq_getD_getElem?] at ht ⊢
  simp [results, h, ht, go_sem, *]
theorem results_hdS1 {fn : Func} {r t u : Tmp} (h : fn.results = #[.cell r 35]) (tmps : Array Value) (ht : tmps.getD r undef = .pointer (some ⟨g, 0, none⟩)) (hB : Blk W g 35 #[a0, a1, a2, a3, a4, a5, a6, a7, a8, a9, a10, a11, a12]) :
    (results fn tmps).run Try.prog (((((((((((((W.setCell ⟨g, 0, none⟩ v0).setCell ⟨g, 1, none⟩ v1).setCell ⟨g, 2, none⟩ v2).setCell ⟨g, 3, none⟩ v3).setCell ⟨g, 4, none⟩ v4).setCell ⟨g, 5, none⟩ v5).setCell ⟨g, 6, none⟩ v6).setCell ⟨g, 7, none⟩ v7).setCell ⟨g, 8, none⟩ v8).setCell ⟨g, 9, none⟩ v9).setCell ⟨g, 10, none⟩ v10).setCell ⟨g, 11, none⟩ v11).setCell ⟨g, 12, none⟩ v12) = .ok (.agg #[v0, v1, v2, v3, v4, v5, v6, v7, v8, v9, v10, v11, v12]) (((((((((((((W.setCell ⟨g, 0, none⟩ v0).setCell ⟨g, 1, none⟩ v1).setCell ⟨g, 2, none⟩ v2).setCell ⟨g, 3, none⟩ v3).setCell ⟨g, 4, none⟩ v4).setCell ⟨g, 5, none⟩ v5).setCell ⟨g, 6, none⟩ v6).setCell ⟨g, 7, none⟩ v7).setCell ⟨g, 8, none⟩ v8).setCell ⟨g, 9, none⟩ v9).setCell ⟨g, 10, none⟩ v10).setCell ⟨g, 11, none⟩ v11).setCell ⟨g, 12, none⟩ v12) := results_hd1 (r := r) (t := t) (u := u) h tmps ht (store_hd hB)
theorem results_hd2 {fn : Func} {r t u : Tmp} (h : fn.results = #[.cell r 35, .tmp t]) (tmps : Array Value) (ht : tmps.getD r undef = .pointer (some ⟨g, 0, none⟩)) (hB : Blk W g 35 #[a0, a1, a2, a3, a4, a5, a6, a7, a8, a9, a10, a11, a12]) :
    (results fn tmps).run Try.prog W = .ok (.tuple #[.agg #[a0, a1, a2, a3, a4, a5, a6, a7, a8, a9, a10, a11, a12], tmps.getD t undef]) W := by
  have h0 := hB.cell 0
  have h1 := hB.cell 1
  have h2 := hB.cell 2
  have h3 := hB.cell 3
  have h4 := hB.cell 4
  have h5 := hB.cell 5
  have h6 := hB.cell 6
  have h7 := hB.cell 7
  have h8 := hB.cell 8
  have h9 := hB.cell 9
  have h10 := hB.cell 10
  have h11 := hB.cell 11
  have h12 := hB.cell 12
  simp at h0 h1 h2 h3 h4 h5 h6 h7 h8 h9 h10 h11 h12
  simp only [Array.getD_eq_getD_getElem?] at ht ⊢
  simp [results, h, ht, go_sem, *]
theorem results_hdS2 {fn : Func} {r t u : Tmp} (h : fn.results = #[.cell r 35, .tmp t]) (tmps : Array Value) (ht : tmps.getD r undef = .pointer (some ⟨g, 0, none⟩)) (hB : Blk W g 35 #[a0, a1, a2, a3, a4, a5, a6, a7, a8, a9, a10, a11, a12]) :
    (results fn tmps).run Try.prog (((((((((((((W.setCell ⟨g, 0, none⟩ v0).setCell ⟨g, 1, none⟩ v1).setCell ⟨g, 2, none⟩ v2).setCell ⟨g, 3, none⟩ v3).setCell ⟨g, 4, none⟩ v4).setCell ⟨g, 5, none⟩ v5).setCell ⟨g, 6, none⟩ v6).setCell ⟨g, 7, none⟩ v7).setCell ⟨g, 8, none⟩ v8).setCell ⟨g, 9, none⟩ v9).setCell ⟨g, 10, none⟩ v10).setCell ⟨g, 11, none⟩ v11).setCell ⟨g, 12, none⟩ v12) = .ok (.tuple #[.agg #[v0, v1, v2, v3, v4, v5, v6, v7, v8, v9, v10, v11, v12], tmps.getD t undef]) (((((((((((((W.setCell ⟨g, 0, none⟩ v0).setCell ⟨g, 1, none⟩ v1).setCell ⟨g, 2, none⟩ v2).setCell ⟨g, 3, none⟩ v3).setCell ⟨g, 4, none⟩ v4).setCell ⟨g, 5, none⟩ v5).setCell ⟨g, 6, none⟩ v6).setCell ⟨g, 7, none⟩ v7).setCell ⟨g, 8, none⟩ v8).setCell ⟨g, 9, none⟩ v9).setCell ⟨g, 10, none⟩ v10).setCell ⟨g, 11, none⟩ v11).setCell ⟨g, 12, none⟩ v12) := results_hd2 (r := r) (t := t) (u := u) h tmps ht (store_hd hB)
theorem results_hd3 {fn : Func} {r t u : Tmp} (h : fn.results = #[.cell r 35, .tmp t, .tmp u]) (tmps : Array Value) (ht : tmps.getD r undef = .pointer (some ⟨g, 0, none⟩)) (hB : Blk W g 35 #[a0, a1, a2, a3, a4, a5, a6, a7, a8, a9, a10, a11, a12]) :
    (results fn tmps).run Try.prog W = .ok (.tuple #[.agg #[a0, a1, a2, a3, a4, a5, a6, a7, a8, a9, a10, a11, a12], tmps.getD t undef, tmps.getD u undef]) W := by
  have h0 := hB.cell 0
  have h1 := hB.cell 1
  have h2 := hB.cell 2
  have h3 := hB.cell 3
  have h4 := hB.cell 4
  have h5 := hB.cell 5
  have h6 := hB.cell 6
  have h7 := hB.cell 7
  have h8 := hB.cell 8
  have h9 := hB.cell 9
  have h10 := hB.cell 10
  have h11 := hB.cell 11
  have h12 := hB.cell 12
  simp at h0 h1 h2 h3 h4 h5 h6 h7 h8 h9 h10 h11 h12
  simp only [Array.getD_eq_getD_getElem?] at ht ⊢
  simp [results, h, ht, go_sem, *]
theorem results_hdS3 {fn : Func} {r t u : Tmp} (h : fn.results = #[.cell r 35, .tmp t, .tmp u]) (tmps : Array Value) (ht : tmps.getD r undef = .pointer (some ⟨g, 0, none⟩)) (hB : Blk W g 35 #[a0, a1, a2, a3, a4, a5, a6, a7, a8, a9, a10, a11, a12]) :
    (results fn tmps).run Try.prog (((((((((((((W.setCell ⟨g, 0, none⟩ v0).setCell ⟨g, 1, none⟩ v1).setCell ⟨g, 2, none⟩ v2).setCell ⟨g, 3, none⟩ v3).setCell ⟨g, 4, none⟩ v4).setCell ⟨g, 5, none⟩ v5).setCell ⟨g, 6, none⟩ v6).setCell ⟨g, 7, none⟩ v7).setCell ⟨g, 8, none⟩ v8).setCell ⟨g, 9, none⟩ v9).setCell ⟨g, 10, none⟩ v10).setCell ⟨g, 11, none⟩ v11).setCell ⟨g, 12, none⟩ v12) = .ok (.tuple #[.agg #[v0, v1, v2, v3, v4, v5, v6, v7, v8, v9, v10, v11, v12], tmps.getD t undef, tmps.getD u undef]) (((((((((((((W.setCell ⟨g, 0, none⟩ v0).setCell ⟨g, 1, none⟩ v1).setCell ⟨g, 2, none⟩ v2).setCell ⟨g, 3, none⟩ v3).setCell ⟨g, 4, none⟩ v4).setCell ⟨g, 5, none⟩ v5).setCell ⟨g, 6, none⟩ v6).setCell ⟨g, 7, none⟩ v7).setCell ⟨g, 8, none⟩ v8).setCell ⟨g, 9, none⟩ v9).setCell ⟨g, 10, none⟩ v10).setCell ⟨g, 11, none⟩ v11).setCell ⟨g, 12, none⟩ v12) := results_hd3 (r := r) (t := t) (u := u) h tmps ht (store_hd hB)
theorem results_hdSA2 {fn : Func} {r t u : Tmp} {o : Obj} (h : fn.results = #[.cell r 35, .tmp t]) (tmps : Array Value) (ht : tmps.getD r undef = .pointer (some ⟨g, 0, none⟩)) (hB : Blk W g 35 #[a0, a1, a2, a3, a4, a5, a6, a7, a8, a9, a10, a11, a12]) :
    (results fn tmps).run Try.prog (World.alloc (((((((((((((W.setCell ⟨g, 0, none⟩ v0).setCell ⟨g, 1, none⟩ v1).setCell ⟨g, 2, none⟩ v2).setCell ⟨g, 3, none⟩ v3).setCell ⟨g, 4, none⟩ v4).setCell ⟨g, 5, none⟩ v5).setCell ⟨g, 6, none⟩ v6).setCell ⟨g, 7, none⟩ v7).setCell ⟨g, 8, none⟩ v8).setCell ⟨g, 9, none⟩ v9).setCell ⟨g, 10, none⟩ v10).setCell ⟨g, 11, none⟩ v11).setCell ⟨g, 12, none⟩ v12) o) = .ok (.tuple #[.agg #[v0, v1, v2, v3, v4, v5, v6, v7, v8, v9, v10, v11, v12], tmps.getD t undef]) (World.alloc (((((((((((((W.setCell ⟨g, 0, none⟩ v0).setCell ⟨g, 1, none⟩ v1).setCell ⟨g, 2, none⟩ v2).setCell ⟨g, 3, none⟩ v3).setCell ⟨g, 4, none⟩ v4).setCell ⟨g, 5, none⟩ v5).setCell ⟨g, 6, none⟩ v6).setCell ⟨g, 7, none⟩ v7).setCell ⟨g, 8, none⟩ v8).setCell ⟨g, 9, none⟩ v9).setCell ⟨g, 10, none⟩ v10).setCell ⟨g, 11, none⟩ v11).setCell ⟨g, 12, none⟩ v12) o) := results_hd2 (r := r) (t := t) (u := u) h tmps ht ((store_hd hB).stays ((Below.refl _ _).alloc (Nat.le_refl _) _))
end
end Go.Proofs.Ytfkckokaclkjnaa
