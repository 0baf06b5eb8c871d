import Derived.Deep.MidRow
import Derived.Lib.SlBuf
import Derived.Maps.OwnSet
import Derived.Maps.Views
import Derived.Test.YtiemnacoebkalaaGreatTaV04
import Derived.Test.YtiemnacoebkalaaGreatTaV20
set_option linter.all false
set_option maxRecDepth 100000
set_option maxHeartbeats 4000000
namespace Go.Proofs.YtiemnacoebkalaaGreat
open Go Go.RowKit
theorem At.range {w : World} {b o : Nat} {l : List UInt8} (h : At w b o l) : w.rangeAt b o (l.map byteV) := by
 intro j v hv; rw [List.getElem?_map] at hv; have hj : j < l.length := by
  rcases Nat.lt_or_ge j l.length with h1 | h1
  · exact h1
  · rw [List.getElem?_eq_none h1] at hv; cases hv
 rw [h.2 j hj]; have := byteAt_map hj; rw [List.getElem?_map] at this; rw [<- this, hv]
theorem Blk.there {w : World} {b : Nat} {T : TypeId} {cs : Array Value} (h : Blk w b T cs) {o n : Nat} (hn : o + n <= cs.size) : w.there b o n := by
 intro j hj; rw [h.cell, h.frozen]; exact ⟨by simp; omega, rfl⟩
theorem bytesC_size (l : List UInt8) : (bytesC l).size = l.length := by unfold bytesC; simp
theorem Blk.setMid {b : Nat} {T : TypeId} : ∀ (vs l : List UInt8) (o : Nat) (w : World), Blk w b T (bytesC l) -> o + vs.length <= l.length -> Blk (w.setCells b o (vs.map byteV)) b T (bytesC (l.take o ++ vs ++ l.drop (o + vs.length)))
 | [], l, o, w, h, _ => by
  have e : l.take o ++ [] ++ l.drop (o + ([] : List UInt8).length) = l := by simp
  rw [e]; exact h
 | v :: vs, l, o, w, h, hl => by
  have h1 := Blk.put h o (byteV v); rw [bytesC_set] at h1; simp only [List.length_cons] at hl; have h2 := Blk.setMid vs (l.set o v) (o + 1) _ h1 (by simp; omega); have e : (l.set o v).take (o + 1) ++ vs ++ (l.set o v).drop (o + 1 + vs.length) = l.take o ++ v :: vs ++ l.drop (o + (v :: vs).length) := by
   rw [List.drop_set_of_lt (by omega), List.take_succ_eq_append_getElem (by simp; omega), List.take_set_of_le (Nat.le_refl o), List.getElem_set_self]; simp [Nat.add_assoc, Nat.add_comm 1]
  rw [e] at h2; exact h2
theorem setCells_grown (b : Nat) : ∀ (vs : List Value) (o : Nat) (w : World), w.grownBy (w.setCells b o vs) (some b)
 | [], _, w => World.grownBy.refl _ _
 | v :: vs, o, w => (grown_put (World.grownBy.refl w _) o v).trans (setCells_grown b vs (o + 1) _)
theorem bytes_oneCell (l : List UInt8) : (bytesC l).all (·.oneCell') = true := all_oneCell_toArray (fun v hv => by
 obtain ⟨x, _, rfl⟩ := List.mem_map.1 hv
 rfl)
theorem wpStill_load {P : Program} {ops : Array Oper} {w : World} {Q : Act -> Prop} {a : Act} {o : Oper} {rest : List Oper} (hg : o.guard = none) (ty : TypeId) (x : Operand) (ho : o.op = .load ty x) (p : Value) (hx : a.eval x = p) (v : Value) (hl : (Instr.loadAt ty p).run P w = .ok v w)
    (h : wpStill P ops w Q rest (a.put o.dst v)) : wpStill P ops w Q (o :: rest) a := by
 unfold wpStill; rw [if_pos (by simp [Region.wanted, hg])]; unfold Oper.still execOp; simp only [ho, hx, Sem.run_bind, hl, Result.andThen_ok, Sem.run_pure]; exact ⟨rfl, h⟩
theorem wpList_load_blk {P : Program} {ops : Array Oper} {rest : List Oper} {op : Oper} {a : Act} {w : World} {Q : Exit -> Act -> World -> Prop} (hgd : op.guard = none) (ty : TypeId) (x : Operand) (ho : op.op = .load ty x)
    (b : Nat) (T : TypeId) (l : List UInt8) (d : TypeDesc) (hx : a.eval x = .pointer (some ⟨b, 0, none⟩)) (hB : Blk w b T (bytesC l)) (hu : P.underlying ty = some d) (hd : d.isRow = true) (hi : (P.info? ty).map (·.size) = some l.length)
    (h : wpList P ops Q rest (a.put op.dst (.agg (bytesC l))) w) : wpList P ops Q (op :: rest) a w :=
 wpList_load_mid hgd ty x ho b 0 hx (l.map byteV) d (At.range (At.of_blk hB)) hu hd (by rw [List.length_map]; exact hi) h
theorem wpList_store_blk {P : Program} {ops : Array Oper} {rest : List Oper} {op : Oper} {a : Act} {w : World} {Q : Exit -> Act -> World -> Prop} (hgd : op.guard = none) (ty : TypeId) (x y : Operand) (ho : op.op = .store ty x y)
    (b : Nat) (T : TypeId) (l m : List UInt8) (hx : a.eval x = .pointer (some ⟨b, 0, none⟩)) (hy : a.eval y = .agg (bytesC m)) (hB : Blk w b T (bytesC l)) (hl : l.length = m.length) (hi : (P.info? ty).map (·.size) = some m.length)
    (h : ∀ w2, Blk w2 b T (bytesC m) -> w.grownBy w2 (some b) -> wpList P ops Q rest (a.put op.dst undef) w2) : wpList P ops Q (op :: rest) a w := by
 refine wpList_store_mid hgd ty x y ho b 0 (bytesC m) hx hy (hB.there (by rw [bytesC_size, bytesC_size]; omega)) (by rw [bytesC_size]; exact hi) (bytes_oneCell m) ?_; refine h _ ?_ (setCells_grown b _ 0 w); have := Blk.setMid m l 0 w hB (by omega); rw [List.take_zero, List.nil_append, Nat.zero_add, List.drop_eq_nil_of_le (by omega), List.append_nil] at this; exact this
theorem results_blk {P : Program} {fn : Func} {r : Tmp} {ty : TypeId} (h : fn.results = #[.cell r ty]) (tmps : Array Value) (w : World) (b : Nat) (T : TypeId) (l : List UInt8) (d : TypeDesc) (hx : tmps.getD r undef = .pointer (some ⟨b, 0, none⟩)) (hB : Blk w b T (bytesC l)) (hu : P.underlying ty = some d) (hd : d.isRow = true) (hi : (P.info? ty).map (·.size) = some l.length) :
    (results fn tmps).run P w = .ok (.agg (bytesC l)) w := by
 have hl := run_loadVar_mid (P := P) w b 0 ty (l.map byteV) d (At.range (At.of_blk hB)) hu hd (by rw [List.length_map]; exact hi); have hl2 : (loadVar ty ⟨b, 0, none⟩).run P w = .ok (.agg (bytesC l)) w := hl; unfold results; rw [h]; simp only [Array.mapM_eq_mapM_toList, List.mapM_cons, List.mapM_nil, hx, asAddr, Sem.run_bind, Sem.run_pure, Sem.run_map, Result.andThen_ok, hl2]; simp
theorem infoByteM : (Tryz.prog.info? 5).map (·.size) = some 1 := by kernel_rfl
theorem wpList_copy_blk {ops : Array Oper} {rest : List Oper} {op : Oper} {a : Act} {w : World} {Q : Exit -> Act -> World -> Prop} (hgd : op.guard = none) (d s : Operand) (ho : op.op = .call { callee := .builtin .copy, args := #[d, s], argTypes := #[27, 27] })
    (b N : Nat) (T : TypeId) (l m : List UInt8) (A : Option Addr) (n c : Nat) (hx : a.eval d = .slice (some ⟨b, 0, none⟩) N N) (hy : a.eval s = .slice A n c) (hB : Blk w b T (bytesC l)) (hl : l.length = N) (hm : Bytes w A n c m) (hn : n <= N)
    (h : ∀ w2, Blk w2 b T (bytesC (m ++ l.drop n)) -> w.grownBy w2 (some b) -> wpList Tryz.prog ops Q rest (a.put op.dst (.int .i64 (n : Int))) w2) : wpList Tryz.prog ops Q (op :: rest) a w := by
 have hml := hm.len; have hmin : Nat.min n N = n := Nat.min_eq_left hn
 cases A with
 | none =>
  have hn0 : n = 0 := by
   rcases Nat.eq_zero_or_pos n with h0 | h0
   · exact h0
   · obtain ⟨_, _, e, _⟩ := hm.at_ h0
     cases e
  subst hn0; have hm0 : m = [] := List.eq_nil_of_length_eq_zero hml; subst hm0; have hr := run_copy_none (P := Tryz.prog) w 27 27 op.type 5 (some ⟨b, 0, none⟩) none N N 0 c Tryz.underlying27 infoByteM (by simp); exact Lib.wpList_copy_run w hgd d s _ _ ho _ _ hx hy hr (h w (by simpa using hB) (World.grownBy.refl _ _))
 | some ad =>
  have hsrc : ∀ j v, (m.map byteV)[j]? = some v -> w.cell? (ad.add j) = some v := by
   intro j v hv; obtain ⟨b', off, e, hc⟩ := hm.2.2.2 j v hv; injection e with e
   subst e; rw [add_off]; exact hc
  have ht := hB.there (o := 0) (n := n) (by rw [bytesC_size]; omega); have hr := run_copy_cells (P := Tryz.prog) w 27 27 op.type 5 b 0 N N ad n c (m.map byteV) Tryz.underlying27 infoByteM (by rw [List.length_map, hml]; exact hmin.symm) hsrc (fun j hj => (ht j (by rw [List.length_map] at hj; omega)).1) (fun j hj => (ht j (by rw [List.length_map] at hj; omega)).2) (oneCell_bytes m); have hb := Blk.setMid m l 0 w hB (by omega); rw [List.take_zero, List.nil_append, Nat.zero_add, hml] at hb; rw [List.length_map, hml] at hr; exact Lib.wpList_copy_run w hgd d s _ _ ho _ _ hx hy hr (h _ hb (setCells_grown b _ 0 w))
theorem infoBlock : (Tryz.prog.info? 225).map (·.size) = some 16 := by kernel_rfl
theorem Blk.midSet {b : Nat} {T : TypeId} : ∀ (vs mid pre post : List Value) (w : World), Blk w b T (pre ++ (mid ++ post)).toArray -> vs.length = mid.length -> Blk (w.setCells b pre.length vs) b T (pre ++ (vs ++ post)).toArray
 | [], mid, pre, post, w, h, hl => by
  have : mid = [] := List.eq_nil_of_length_eq_zero hl.symm; subst this; exact h
 | v :: vs, [], pre, post, w, h, hl => by simp at hl
 | v :: vs, m :: mid, pre, post, w, h, hl => by
  have h1 := Blk.put h pre.length v; have e : (pre ++ (m :: mid ++ post)).toArray.setIfInBounds pre.length v = ((pre ++ [v]) ++ (mid ++ post)).toArray := by
   rw [List.setIfInBounds_toArray, List.set_append_right _ _ (Nat.le_refl _)]; simp
  rw [e] at h1; have h2 := Blk.midSet vs mid (pre ++ [v]) post _ h1 (by simpa using hl); rw [List.length_append, List.length_singleton] at h2; have e2 : pre ++ [v] ++ (vs ++ post) = pre ++ (v :: vs ++ post) := by simp
  rw [e2] at h2; exact h2
theorem Blk.range {w : World} {b : Nat} {T : TypeId} {pre mid post : List Value} (h : Blk w b T (pre ++ (mid ++ post)).toArray) : w.rangeAt b pre.length mid := by
 intro j v hv; have hj : j < mid.length := by
  rcases Nat.lt_or_ge j mid.length with h1 | h1
  · exact h1
  · rw [List.getElem?_eq_none h1] at hv; cases hv
 rw [h.cell, List.getElem?_toArray, List.getElem?_append_right (by omega), show pre.length + j - pre.length = j by omega, List.getElem?_append_left hj]; exact hv
theorem wpList_load_part {P : Program} {ops : Array Oper} {rest : List Oper} {op : Oper} {a : Act} {w : World} {Q : Exit -> Act -> World -> Prop} (hgd : op.guard = none) (ty : TypeId) (x : Operand) (ho : op.op = .load ty x)
    (b o : Nat) (T : TypeId) (pre mid post : List Value) (d : TypeDesc) (hx : a.eval x = .pointer (some ⟨b, o, none⟩)) (hB : Blk w b T (pre ++ (mid ++ post)).toArray) (hp : pre.length = o) (hu : P.underlying ty = some d) (hd : d.isRow = true) (hi : (P.info? ty).map (·.size) = some mid.length)
    (h : wpList P ops Q rest (a.put op.dst (.agg mid.toArray)) w) : wpList P ops Q (op :: rest) a w :=
 wpList_load_mid hgd ty x ho b o hx mid d (by rw [<- hp]; exact hB.range) hu hd hi h
theorem wpList_store_part {P : Program} {ops : Array Oper} {rest : List Oper} {op : Oper} {a : Act} {w : World} {Q : Exit -> Act -> World -> Prop} (hgd : op.guard = none) (ty : TypeId) (x y : Operand) (ho : op.op = .store ty x y)
    (b o : Nat) (T : TypeId) (pre mid post vs : List Value) (hx : a.eval x = .pointer (some ⟨b, o, none⟩)) (hy : a.eval y = .agg vs.toArray) (hB : Blk w b T (pre ++ (mid ++ post)).toArray) (hp : pre.length = o) (hl : vs.length = mid.length) (hi : (P.info? ty).map (·.size) = some vs.length) (h1 : ∀ v ∈ vs, v.oneCell' = true)
    (h : ∀ w2, Blk w2 b T (pre ++ (vs ++ post)).toArray -> w.grownBy w2 (some b) -> wpList P ops Q rest (a.put op.dst undef) w2) : wpList P ops Q (op :: rest) a w := by
 refine wpList_store_mid hgd ty x y ho b o vs.toArray hx hy (hB.there (by simp; omega)) (by simpa using hi) (all_oneCell_toArray h1) ?_; subst hp; exact h _ (Blk.midSet vs mid pre post w hB hl) (setCells_grown b _ _ w)
theorem below_new_store {w w' : World} {o : Obj} (h : (w.alloc o).grownBy w' (some w.heap.size)) : Below w.heap.size w w' :=
 ((Below.refl _ _).alloc (Nat.le_refl _) o).grown h (by simp) (fun k hk => by simp at hk; omega)
theorem results_whole {P : Program} {fn : Func} {r : Tmp} {ty : TypeId} (h : fn.results = #[.cell r ty]) (tmps : Array Value) (w : World) (b : Nat) (T : TypeId) (cs : List Value) (d : TypeDesc) (hx : tmps.getD r undef = .pointer (some ⟨b, 0, none⟩)) (hB : Blk w b T cs.toArray) (hu : P.underlying ty = some d) (hd : d.isRow = true) (hi : (P.info? ty).map (·.size) = some cs.length) :
    (results fn tmps).run P w = .ok (.agg cs.toArray) w := by
 have hr : w.rangeAt b 0 cs := by
  have := Blk.range (pre := []) (mid := cs) (post := []) (by simpa using hB)
  simpa using this
 have hl := run_loadVar_mid (P := P) w b 0 ty cs d hr hu hd hi; unfold results; rw [h]; simp only [Array.mapM_eq_mapM_toList, List.mapM_cons, List.mapM_nil, hx, asAddr, Sem.run_bind, Sem.run_pure, Sem.run_map, Result.andThen_ok, hl]; simp
theorem results_whole2 {P : Program} {fn : Func} {r s : Tmp} {ty : TypeId} (h : fn.results = #[.cell r ty, .tmp s]) (tmps : Array Value) (w : World) (b : Nat) (T : TypeId) (cs : List Value) (d : TypeDesc) (v : Value) (hx : tmps.getD r undef = .pointer (some ⟨b, 0, none⟩)) (hv : tmps.getD s undef = v) (hB : Blk w b T cs.toArray) (hu : P.underlying ty = some d) (hd : d.isRow = true) (hi : (P.info? ty).map (·.size) = some cs.length) :
    (results fn tmps).run P w = .ok (.tuple #[.agg cs.toArray, v]) w := by
 have hr : w.rangeAt b 0 cs := by
  have := Blk.range (pre := []) (mid := cs) (post := []) (by simpa using hB)
  simpa using this
 have hl := run_loadVar_mid (P := P) w b 0 ty cs d hr hu hd hi; unfold results; rw [h]; simp only [Array.mapM_eq_mapM_toList, List.mapM_cons, List.mapM_nil, hx, hv, asAddr, Sem.run_bind, Sem.run_pure, Sem.run_map, Result.andThen_ok, hl]; simp
section
variable {P : Program} {md : Region.Mode} {ops : Array Oper} {Q : Exit -> Act -> World -> Prop} {S : World -> Prop}
theorem exec_load_part {o : Oper} {a : Act} {w : World} (ty : TypeId) (x : Operand) (ho : o.op = .load ty x) (b k : Nat) (T : TypeId) (pre mid post : List Value) (d : TypeDesc) (hx : a.eval x = .pointer (some ⟨b, k, none⟩)) (hB : Blk w b T (pre ++ (mid ++ post)).toArray) (hp : pre.length = k) (hu : P.underlying ty = some d) (hd : d.isRow = true) (hi : (P.info? ty).map (·.size) = some mid.length) :
    (execOp a.eval o).run P w = .ok (.value (.agg mid.toArray)) w := by
 have hl := run_loadAt_mid (P := P) w b k ty mid d (by rw [<- hp]; exact hB.range) hu hd hi; unfold execOp; simp only [ho, hx, Sem.run_bind, hl, Result.andThen_ok, Sem.run_pure]
theorem exec_store_blk {o : Oper} {a : Act} {w : World} (ty : TypeId) (x y : Operand) (ho : o.op = .store ty x y) (b : Nat) (T : TypeId) (l m : List UInt8) (hx : a.eval x = .pointer (some ⟨b, 0, none⟩)) (hy : a.eval y = .agg (bytesC m)) (hB : Blk w b T (bytesC l)) (hl : l.length = m.length) (hi : (P.info? ty).map (·.size) = some m.length) :
    (execOp a.eval o).run P w = .ok .skip (w.setCells b 0 (m.map byteV)) := by
 have hs := run_storeAt_mid (P := P) w b 0 ty (bytesC m) (hB.there (by rw [bytesC_size, bytesC_size]; omega)) (by rw [bytesC_size]; exact hi) (bytes_oneCell m); unfold execOp; simp only [ho, hx, hy, Sem.run_bind, hs, Result.andThen_ok, Sem.run_pure]
 rfl
theorem blk_stored {w : World} {b : Nat} {T : TypeId} {l m : List UInt8} (hB : Blk w b T (bytesC l)) (hl : l.length = m.length) : Blk (w.setCells b 0 (m.map byteV)) b T (bytesC m) := by
 have := Blk.setMid m l 0 w hB (by omega); rw [List.take_zero, List.nil_append, Nat.zero_add, List.drop_eq_nil_of_le (by omega), List.append_nil] at this; exact this
theorem take_store_blk {j : Nat} {oj : Oper} {fuel : Nat} {listed : Array Bool} {a : Act} {w : World} (hj : ops[j]? = some oj) (hd : oj.dst = none)
    (hr : Region.ready md ops listed = [j]) (hg : oj.guard = none) (ty : TypeId) (x y : Operand) (ho : oj.op = .store ty x y) (b : Nat) (T : TypeId) (l m : List UInt8) (hx : a.eval x = .pointer (some ⟨b, 0, none⟩)) (hy : a.eval y = .agg (bytesC m)) (hB : Blk w b T (bytesC l)) (hl : l.length = m.length) (hi : (P.info? ty).map (·.size) = some m.length)
    (hS : ∀ w2, w.grownBy w2 (some b) -> S w2)
    (h : ∀ w2, Blk w2 b T (bytesC m) -> w.grownBy w2 (some b) -> wpAnyH P md ops Q S fuel (listed.setIfInBounds j true) a w2) : wpAnyH P md ops Q S (fuel + 1) listed a w :=
 have hgr := setCells_grown b (m.map byteV) 0 w
 take_store_at hj hd hr hg (exec_store_blk ty x y ho b T l m hx hy hB hl hi) (hS _ hgr) (h _ (blk_stored hB hl) hgr)
end
section
variable {P : Program} {md : Region.Mode} {ops : Array Oper} {Q : Exit -> Act -> World -> Prop} {S : World -> Prop}
theorem exec_store_part {o : Oper} {a : Act} {w : World} (ty : TypeId) (x y : Operand) (ho : o.op = .store ty x y) (b k : Nat) (T : TypeId) (pre mid post vs : List Value) (hx : a.eval x = .pointer (some ⟨b, k, none⟩)) (hy : a.eval y = .agg vs.toArray) (hB : Blk w b T (pre ++ (mid ++ post)).toArray) (hp : pre.length = k) (hl : vs.length = mid.length) (hi : (P.info? ty).map (·.size) = some vs.length) (h1 : ∀ v ∈ vs, v.oneCell' = true) :
    (execOp a.eval o).run P w = .ok .skip (w.setCells b k vs) := by
 have hs := run_storeAt_mid (P := P) w b k ty vs.toArray (hB.there (by simp; omega)) (by simpa using hi) (all_oneCell_toArray h1); unfold execOp; simp only [ho, hx, hy, Sem.run_bind, hs, Result.andThen_ok, Sem.run_pure]
theorem take_store_part {j : Nat} {oj : Oper} {fuel : Nat} {listed : Array Bool} {a : Act} {w : World} (hj : ops[j]? = some oj) (hd : oj.dst = none)
    (hr : Region.ready md ops listed = [j]) (hg : oj.guard = none) (ty : TypeId) (x y : Operand) (ho : oj.op = .store ty x y) (b k : Nat) (T : TypeId) (pre mid post vs : List Value) (hx : a.eval x = .pointer (some ⟨b, k, none⟩)) (hy : a.eval y = .agg vs.toArray) (hB : Blk w b T (pre ++ (mid ++ post)).toArray) (hp : pre.length = k) (hl : vs.length = mid.length) (hi : (P.info? ty).map (·.size) = some vs.length) (h1 : ∀ v ∈ vs, v.oneCell' = true)
    (hS : ∀ w2, w.grownBy w2 (some b) -> S w2)
    (h : ∀ w2, Blk w2 b T (pre ++ (vs ++ post)).toArray -> w.grownBy w2 (some b) -> wpAnyH P md ops Q S fuel (listed.setIfInBounds j true) a w2) : wpAnyH P md ops Q S (fuel + 1) listed a w :=
 have hgr := setCells_grown b vs k w
 take_store_at hj hd hr hg (exec_store_part ty x y ho b k T pre mid post vs hx hy hB hp hl hi h1) (hS _ hgr) (h _ (by subst hp; exact Blk.midSet vs mid pre post w hB hl) hgr)
end
def noByte (cs : List Value) : Bool := cs.all fun v => match v with | .int .u8 _ => false | _ => true
theorem noByte_spec {cs : List Value} (h : noByte cs = true) {i : Nat} {x : Int} : cs[i]? ≠ some (.int .u8 x) := by
 intro e; have hm : Value.int .u8 x ∈ cs := List.mem_of_getElem? e; have := List.all_eq_true.1 h _ hm
 cases this
theorem off_block {w : World} {A : Option Addr} {n c g : Nat} {l : List UInt8} {T : TypeId} {cs : Array Value} (h : Bytes w A n c l) (hB : Blk w g T cs) (hc : noByte cs.toList = true) : Off A n (some g) := by
 intro a ha hn e; injection e with e
 have hl := h.len; have hn' : 0 < l.length := by omega
 obtain ⟨b, off, e2, hcell⟩ := h.2.2.2 0 (byteV (l[0]'hn')) (by rw [List.getElem?_map, List.getElem?_eq_getElem hn']; rfl); rw [ha] at e2; injection e2 with e2
 subst e2; have e3 : b = g := e.symm; subst e3; rw [hB.cell] at hcell; rw [<- Array.getElem?_toList] at hcell; exact noByte_spec hc hcell
theorem results_whole3 {P : Program} {fn : Func} {r s s2 : Tmp} {ty : TypeId} (h : fn.results = #[.cell r ty, .tmp s, .tmp s2]) (tmps : Array Value) (w : World) (b : Nat) (T : TypeId) (cs : List Value) (d : TypeDesc) (v v2 : Value) (hx : tmps.getD r undef = .pointer (some ⟨b, 0, none⟩)) (hv : tmps.getD s undef = v) (hv2 : tmps.getD s2 undef = v2) (hB : Blk w b T cs.toArray) (hu : P.underlying ty = some d) (hd : d.isRow = true) (hi : (P.info? ty).map (·.size) = some cs.length) :
    (results fn tmps).run P w = .ok (.tuple #[.agg cs.toArray, v, v2]) w := by
 have hr : w.rangeAt b 0 cs := by
  have := Blk.range (pre := []) (mid := cs) (post := []) (by simpa using hB)
  simpa using this
 have hl := run_loadVar_mid (P := P) w b 0 ty cs d hr hu hd hi; unfold results; rw [h]; simp only [Array.mapM_eq_mapM_toList, List.mapM_cons, List.mapM_nil, hx, hv, hv2, asAddr, Sem.run_bind, Sem.run_pure, Sem.run_map, Result.andThen_ok, hl]; simp
theorem results_whole4 {P : Program} {fn : Func} {r s s2 s3 : Tmp} {ty : TypeId} (h : fn.results = #[.cell r ty, .tmp s, .tmp s2, .tmp s3]) (tmps : Array Value) (w : World) (b : Nat) (T : TypeId) (cs : List Value) (d : TypeDesc) (v v2 v3 : Value) (hx : tmps.getD r undef = .pointer (some ⟨b, 0, none⟩)) (hv : tmps.getD s undef = v) (hv2 : tmps.getD s2 undef = v2) (hv3 : tmps.getD s3 undef = v3) (hB : Blk w b T cs.toArray) (hu : P.underlying ty = some d) (hd : d.isRow = true) (hi : (P.info? ty).map (·.size) = some cs.length) :
    (results fn tmps).run P w = .ok (.tuple #[.agg cs.toArray, v, v2, v3]) w := by
 have hr : w.rangeAt b 0 cs := by
  have := Blk.range (pre := []) (mid := cs) (post := []) (by simpa using hB)
  simpa using this
 have hl := run_loadVar_mid (P := P) w b 0 ty cs d hr hu hd hi; unfold results; rw [h]; simp only [Array.mapM_eq_mapM_toList, List.mapM_cons, List.mapM_nil, hx, hv, hv2, hv3, asAddr, Sem.run_bind, Sem.run_pure, Sem.run_map, Result.andThen_ok, hl]; simp
theorem results_cells2 {P : Program} {fn : Func} {r s : Tmp} {ty ty2 : TypeId} (h : fn.results = #[.cell r ty, .cell s ty2]) (tmps : Array Value) (w : World) (b b2 : Nat) (T T2 : TypeId) (cs cs2 : List Value) (d d2 : TypeDesc) (hx : tmps.getD r undef = .pointer (some ⟨b, 0, none⟩)) (hx2 : tmps.getD s undef = .pointer (some ⟨b2, 0, none⟩)) (hB : Blk w b T cs.toArray) (hB2 : Blk w b2 T2 cs2.toArray) (hu : P.underlying ty = some d) (hd : d.isRow = true) (hi : (P.info? ty).map (·.size) = some cs.length) (hu2 : P.underlying ty2 = some d2) (hd2 : d2.isRow = true) (hi2 : (P.info? ty2).map (·.size) = some cs2.length) :
    (results fn tmps).run P w = .ok (.tuple #[.agg cs.toArray, .agg cs2.toArray]) w := by
 have hr : w.rangeAt b 0 cs := by
  have := Blk.range (pre := []) (mid := cs) (post := []) (by simpa using hB)
  simpa using this
 have hr2 : w.rangeAt b2 0 cs2 := by
  have := Blk.range (pre := []) (mid := cs2) (post := []) (by simpa using hB2)
  simpa using this
 have hl := run_loadVar_mid (P := P) w b 0 ty cs d hr hu hd hi; have hl2 := run_loadVar_mid (P := P) w b2 0 ty2 cs2 d2 hr2 hu2 hd2 hi2; unfold results; rw [h]; simp only [Array.mapM_eq_mapM_toList, List.mapM_cons, List.mapM_nil, hx, hx2, asAddr, Sem.run_bind, Sem.run_pure, Sem.run_map, Result.andThen_ok, hl, hl2]; simp
def RingV (w : World) (v : Value) (ks : List (Int × List UInt8)) : Prop := ∃ A n c, v = .agg #[.slice A n c] ∧ FldL w A n c ks
theorem RingV.stays {w w' : World} {v : Value} {ks : List (Int × List UInt8)} (h : RingV w v ks) (hb : Below w.heap.size w w') : RingV w' v ks := by
 obtain ⟨A, n, c, e, h⟩ := h; exact ⟨A, n, c, e, h.stays hb⟩
instance {w w' : World} {v : Value} {ks : List (Int × List UInt8)} : QStay (RingV w v ks) w w' (RingV w' v ks) := ⟨fun h hb => RingV.stays h hb⟩
def RingG (ks : List (Int × List UInt8)) : Prop := 1 <= ks.length ∧ ks.length <= 4 ∧ (∀ i, i < ks.length -> 0 <= fldT ks i ∧ fldT ks i <= 4294967295 ∧ (fldD ks i).length = 32) ∧ ∀ i j, i < j -> j < ks.length -> fldT ks i ≠ fldT ks j
theorem plainBool_inv {H : Type} {P : Program} {e : TypeId} (he : P.underlying e = some .bool) {v : Value} {x : Bool} {ps : List MemPlace} (h : plainElem (H := H) P e v = some (.lit (.bool x), ps)) : v = .bool x := by
 cases v <;> simp [plainElem, he] at h
 simp_all
theorem infoMaster : (Tryz.prog.info? 126).map (·.size) = some 2 := by kernel_rfl
theorem i64_wf {a : Int} (h0 : 0 <= a) (h1 : a <= 4294967295) : (Lit.int .i64 a).wf = true := by
 simp [Lit.wf, IntKind.min, IntKind.max, IntKind.bits, IntKind.signed]; omega
def mapFree (w : World) (b j n : Nat) (ks : List (Int × List UInt8)) : Prop :=
 ∃ D : DataW Unit, w.ownsMap Tryz.prog 3 (plainElem Tryz.prog 4) b j D ∧ ∀ i, j <= i -> i < n -> D.atKey (.int .i64 (fldT ks i)) (.lit (.bool false)) = .lit (.bool false)
theorem ckValid_any (v : Value) (ks : List (Int × List UInt8)) (w : World) (h : RingV w v ks) (hg : RingG ks) : Calls Tryz.prog 72 #[v] w fun e w' => e = .returned (.bool true) ∧ Below w.heap.size w w' := by
 obtain ⟨A, n, c, rfl, hF⟩ := h; have HF := qq hF; have HL := qq hF.len; have HG := qq hg; have hle := hF.le; have hcap := hF.cap; have hg1 : 1 <= n := by have := hg.1; have := hF.len; omega
 have hg4 : n <= 4 := by have := hg.2.1; have := hF.len; omega
 have nI1 : (1 : Int) <= (n : Int) := by omega
 have nI4 : (n : Int) <= 4 := by omega
 clear hF hg; have hmm := @run_makeMap Tryz.prog
 go_enter Tryz.func72, Tryz.ntmps72
 go_upto_region 3 with fail
 clear hmm; obtain ⟨y1, x_, mb, ey1, ex_, em_⟩ : ∃ y1 x_ mb, y1 = (w.alloc (.cells #[.slice A n c] 25)).alloc (.map #[] 0) ∧ x_ = w.heap.size ∧ mb = w.heap.size + 1 := ⟨_, _, _, rfl, rfl, rfl⟩; rw [<- ey1, <- em_, <- ex_]; have hb1 : Below w.heap.size w y1 := by rw [ey1]; exact below_alloc2 _ _ _
 have BX := qq (show Blk y1 x_ 25 #[.slice A n c] by rw [ey1, ex_]; exact (blk_new1_0 _ _ _).stays (below_alloc1 _ _)); have HM := qq (show mapFree y1 mb 0 n ks from ⟨.map [], by rw [ey1, em_]; have := World.ownsMap_made (w.alloc (.cells #[.slice A n c] 25)) Tryz.prog 3 (plainElem (H := Unit) Tryz.prog 4); rw [World.size_alloc] at this; exact this, fun i _ _ => WideAt.atKey_none _ (fun p hp => by cases hp)⟩); have RW := qq hb1; have wm : w.heap.size <= mb := by omega
 have xm : x_ < mb := by omega
 clear hb1 ey1 ex_ em_
 go_loopw [10] (fun s wr => ∃ (j : Nat), s = .int .i64 j ∧ Hid (j <= n) ∧ Hid (mapFree wr mb j n ks) ∧ Hid (Blk wr x_ 25 #[.slice A n c]) ∧ Below w.heap.size w wr) (fun s _ => match s with | .int _ j => (n - j).toNat | _ => 0)
 case atStart => exact ⟨0, rfl, Nat.zero_le _, HM.out, BX.out, RW.out⟩
 case round =>
  clear HM BX RW; obtain ⟨j, rfl, HJ, HM, BX, hb⟩ := hrel; have RW := qq hb; clear hb
  by_cases hj : j < n
  · have hjI : (j : Int) < (n : Int) := by omega
    obtain ⟨b, off, A2, n2, c2, eA, hc0, hc1, hb2⟩ := (HF.out.stays RW.out).at_ hj; subst eA; have hgj := HG.out.2.2.1 j (by rw [HL.out]; exact hj); have hn2 : n2 = 32 := by have := hb2.len; omega
    subst hn2; obtain ⟨q, hq⟩ : ∃ q, off + j * 2 = q := ⟨_, rfl⟩; rw [hq] at hc0 hc1; obtain ⟨t, ht⟩ : ∃ t, fldT ks j = t := ⟨_, rfl⟩; have HT := qq ht; rw [ht] at hc0 hgj; have ht0 := hgj.1; have ht1 := hgj.2.1; clear ht hgj hb2
    go_upto_region 5 with (refine wpList_store_part rfl 126 _ _ rfl wr.heap.size 0 126 [] [.int .i64 0, .slice none 0 0] [] [.int .i64 t, .slice A2 32 c2] rfl rfl (Blk.new _ _ _) rfl rfl infoMaster (by simp [Value.oneCell']) ?_; intro y2 D2 G2; rw [List.append_nil, List.nil_append] at D2)
    have hb2 := below_new_store G2; obtain ⟨k_, ek⟩ : ∃ k_, k_ = wr.heap.size := ⟨_, rfl⟩; rw [<- ek] at D2 ⊢; have BX := qs BX hb2; have RW := qt RW hb2; obtain ⟨D, hown, hfree⟩ := HM.out; have hmlt := hown.lt; have hown2 := hown.kept (grown_of_below hb2 none) (by simp); have HFREE := qq hfree; have HK : keyOf Tryz.prog 3 (.int .i64 t) = some (.int .i64 t) := Maps.keyOf_int_mk Tryz.underlying3 (i64_wf ht0 ht1); obtain ⟨v0, ps, hlk0, hR⟩ := hown2.lookup (t := 181) (Maps.int_keyed Tryz.underlying3) Tryz.underlying181 (z := .bool false) (by first | exact Tryz.zeroValue4 _ | rfl) (plainElem_bool Tryz.underlying4 false) HK; have hat := hfree j (Nat.le_refl _) hj; rw [HT.out] at hat; rw [hat] at hR; have hv0 := plainBool_inv Tryz.underlying4 hR; subst hv0; have HOWN := qq hown2; have HKH := qq HK; have ck := D2.cell; have t0 : ¬ t < 0 := by omega
    have t1 : ¬ 4294967295 < t := by omega
    clear hown hown2 hfree hR hat HK hb2 G2 ek hc0 hc1 HM ht0 ht1
    go_upto_region 8 with (refine wpList_mapUpdate_own _ rfl _ _ _ _ rfl 3 4 (Maps.int_keyed Tryz.underlying3) Tryz.underlying181 _ mb j D rfl HOWN.out (by unfold maxLen; omega) _ _ _ rfl rfl HKH.out _ _ (plainElem_bool Tryz.underlying4 true) ?_; intro y3 D3 G3)
    have HM3 : Hid (mapFree y3 mb (j + 1) n ks) := ⟨_, D3, fun i h1 h2 => by
     have hne := HG.out.2.2.2 j i (by omega) (by rw [HL.out]; exact h2); rw [HT.out] at hne; rw [Maps.atKey_put_other (fun e => hne (by injection e with _ e2; exact e2.symm))]; exact HFREE.out i (by omega) h2⟩
    have BX := qq (BX.out.grown G3 (by simp; omega)); have RW := qq (RW.out.grown G3 RW.out.size (fun k hk => by cases hk; exact wm)); clear D3 G3 HOWN HFREE HKH ck D2 hmlt; go_wp2
    go_roundw
    case rel => exact ⟨j + 1, by simp, qq (by omega), HM3, BX.out, RW.out⟩
    case measure => simp; omega
  · have ej : j = n := Nat.le_antisymm (show j <= n from HJ.out) (Nat.le_of_not_lt hj); subst ej; have cX := BX.out.cell 0; go_wp2; go_ret; exact ⟨rfl, RW.out⟩
section
variable {P : Program} {md : Region.Mode} {ops : Array Oper} {Q : Exit -> Act -> World -> Prop} {S : World -> Prop}
theorem take_or {i j : Nat} {fuel : Nat} {listed : Array Bool} {a : Act} {w : World} (hr : Region.ready md ops listed = [i, j])
    (hi : wpOp P ops Q i (fun a' w' => S w' ∧ wpAnyH P md ops Q S fuel (listed.setIfInBounds i true) a' w') a w)
    (hj : wpOp P ops Q j (fun a' w' => S w' ∧ wpAnyH P md ops Q S fuel (listed.setIfInBounds j true) a' w') a w) : wpAnyH P md ops Q S (fuel + 1) listed a w := by
 refine wpAnyH_all hr (by simp) fun k hk => ?_
 rcases (by simpa using hk : k = i ∨ k = j) with rfl | rfl
 · exact hi
 · exact hj
theorem take_one {i : Nat} {fuel : Nat} {listed : Array Bool} {a : Act} {w : World} (hr : Region.ready md ops listed = [i])
    (hi : wpOp P ops Q i (fun a' w' => S w' ∧ wpAnyH P md ops Q S fuel (listed.setIfInBounds i true) a' w') a w) : wpAnyH P md ops Q S (fuel + 1) listed a w := by
 refine wpAnyH_all hr (by simp) fun k hk => ?_
 obtain rfl : k = i := by simpa using hk
 exact hi
theorem op_do {j : Nat} {oj : Oper} {d : Option Tmp} {v : Value} {w2 : World} {K : Act -> World -> Prop} {a : Act} {w : World} (hj : ops[j]? = some oj) (hd : oj.dst = d) (hg : oj.guard = none)
    (hrun : (execOp a.eval oj).run P w = .ok (.value v) w2) (h : K (a.put d v) w2) : wpOp P ops Q j K a w := by
  subst hd; unfold Go.wpOp; simp only [hj]; rw [if_pos (Region.unguarded hg _)]
  left
  unfold Oper.wp; rw [hrun]; exact h
theorem op_alloc {i : Nat} {oi : Oper} {di : Option Tmp} {T : TypeId} {z : Array Value} {K : Act -> World -> Prop} {a : Act} {w : World} (hi : ops[i]? = some oi) (hdi : oi.dst = di) (hg : oi.guard = none)
    (hal : (execOp a.eval oi).run P w = .ok (.value (.pointer (some ⟨w.heap.size, 0, none⟩))) (w.alloc (.cells z T)))
    (h : ∀ g w2, w.heap.size <= g -> Blk w2 g T z -> Below w.heap.size w w2 -> K (a.put di (.pointer (some ⟨g, 0, none⟩))) w2) : wpOp P ops Q i K a w :=
 op_do hi hdi hg hal (h _ _ (Nat.le_refl _) (Blk.new _ _ _) ((Below.refl _ w).alloc (Nat.le_refl _) _))
theorem op_row {i : Nat} {oi : Oper} {di : Option Tmp} {T : TypeId} {z : Array Value} {n c : Nat} {K : Act -> World -> Prop} {a : Act} {w : World} (hi : ops[i]? = some oi) (hdi : oi.dst = di) (hg : oi.guard = none)
    (hal : (execOp a.eval oi).run P w = .ok (.value (.slice (some ⟨w.heap.size, 0, none⟩) n c)) (w.alloc (.cells z T)))
    (h : ∀ g w2, w.heap.size <= g -> Blk w2 g T z -> Below w.heap.size w w2 -> K (a.put di (.slice (some ⟨g, 0, none⟩) n c)) w2) : wpOp P ops Q i K a w :=
 op_do hi hdi hg hal (h _ _ (Nat.le_refl _) (Blk.new _ _ _) ((Below.refl _ w).alloc (Nat.le_refl _) _))
theorem op_make {j : Nat} {oj : Oper} {d : Option Tmp} {f : FuncId} {args : Array Value} {R : Value -> World -> Prop} {K : Act -> World -> Prop} {a : Act} {w : World} (hj : ops[j]? = some oj) (hd : oj.dst = d) (hg : oj.guard = none)
    (hrun : (execOp a.eval oj).run P w = .ok (.enter f args) w) (hc : Calls P f args w fun e w' => ∃ v, e = .returned v ∧ R v w')
    (h : ∀ v w2, R v w2 -> K (a.put d v) w2) : wpOp P ops Q j K a w := by
 subst hd; unfold Go.wpOp; simp only [hj]; rw [if_pos (Region.unguarded hg _)]
 left
 unfold Oper.wp; rw [hrun]; refine Calls.mono hc fun e w2 he => ?_
 obtain ⟨v, rfl, hR⟩ := he; exact h v w2 hR
theorem op_append {B e size n c m c2 : Nat} {A A2 : Option Addr} {xs news : List Value} {j : Nat} {o : Oper} {d : Option Tmp} {K : Act -> World -> Prop} {a : Act} {w : World} (hj : ops[j]? = some o) (hd : o.dst = d) (hgd : o.guard = none) (s x : Operand) (t : TypeId)
    (ho : o.op = .call { callee := .builtin .append, args := #[s, x], argTypes := #[t, t] })
    (i : TypeInfo) (z : Value) (bytes : Nat) (ht : P.underlying t = some (.slice e)) (hi : P.info? e = some i) (hz : i.zero = some z)
    (hsize : i.size = size) (hby : i.bytes = bytes) (hzs : z.cells.size = size) (hsz : 0 < size)
    (hs : a.eval s = .slice A n c) (hown : w.ownsRow B e size (.slice A n c) n xs) (hx : a.eval x = .slice A2 m c2) (hr : Rd w size A2 m c2 news) (h1 : ∀ u ∈ news, u.oneCell' = true)
    (h63 : n + m <= maxLen) (hbytes : (n + m) * bytes <= 140737488355328) (hbase : B <= w.heap.size)
    (h : ∀ A' c' w', w'.ownsRow B e size (.slice A' (n + m) c') (n + m) (xs ++ news) -> w.grownBy w' (Value.slice A n c).ownBlock -> Below B w w' -> K (a.put d (.slice A' (n + m) c')) w') : wpOp P ops Q j K a w := by
 obtain ⟨A', c', w', hrun, h2, h3, h4⟩ := run_append_rd (P := P) t o.type i z bytes ht hi hz hsize hby hzs hsz hown hr h1 h63 hbytes hbase; refine op_do hj hd hgd (v := .slice A' (n + m) c') (w2 := w') ?_ (h A' c' w' h2 h3 ((Below.refl B w).grown h3 hbase (fun k hk => (hown.lt k hk).1))); simp [execOp, ho, resolve, invoke, builtin, hs, hx, hrun, Result.andThen]
theorem meetW2 {A B : Type} {G : Prop} {R C : A -> B -> World -> Prop} (h : (∀ x y w, R x y w -> C x y w) -> G) (hfin : ∀ x y w, R x y w -> C x y w) : G := h hfin
end
theorem results_tcll {P : Program} {fn : Func} {r0 r s s2 : Tmp} {ty : TypeId} (h : fn.results = #[.tmp r0, .cell r ty, .tmp s, .tmp s2]) (tmps : Array Value) (w : World) (b : Nat) (T : TypeId) (cs : List Value) (d : TypeDesc) (v0 v v2 : Value) (hx : tmps.getD r undef = .pointer (some ⟨b, 0, none⟩)) (hv0 : tmps.getD r0 undef = v0) (hv : tmps.getD s undef = v) (hv2 : tmps.getD s2 undef = v2) (hB : Blk w b T cs.toArray) (hu : P.underlying ty = some d) (hd : d.isRow = true) (hi : (P.info? ty).map (·.size) = some cs.length) :
    (results fn tmps).run P w = .ok (.tuple #[v0, .agg cs.toArray, v, v2]) w := by
 have hr : w.rangeAt b 0 cs := by
  have := Blk.range (pre := []) (mid := cs) (post := []) (by simpa using hB)
  simpa using this
 have hl := run_loadVar_mid (P := P) w b 0 ty cs d hr hu hd hi; unfold results; rw [h]; simp only [Array.mapM_eq_mapM_toList, List.mapM_cons, List.mapM_nil, hx, hv0, hv, hv2, asAddr, Sem.run_bind, Sem.run_pure, Sem.run_map, Result.andThen_ok, hl]; simp
section
variable {P : Program} {ops : Array Oper} {w0 : World} {AV : Nat -> Nat -> Bool} {AL : Nat -> Bool} {K : Act -> World -> Prop} {r : List Spec} {i : Nat} {a : Act} {H : Nat -> World -> Prop} {o : Oper} {d : Option Tmp} {V : Value}
theorem step_pk (ho : ops[i]? = some o) (hd : o.dst = d) (hg : o.guard = none)
    (hc : ∀ w, Below w0.heap.size w0 w -> (∀ k, AV i k = true -> H k w) -> ∃ f args, (execOp a.eval o).run P w = .ok (.enter f args) w ∧ Calls P f args w fun e w' => e = .returned V ∧ Below w.heap.size w w')
    (h : Steps P ops w0 AV AL K r (i + 1) (a.put d V) (fun k w => if k = i then True else H k w)) : Steps P ops w0 AV AL K (pv V :: r) i a H := by
 refine ⟨fun _ => ⟨V, rfl⟩, fun o' ho' w hw hk => ?_, fun o' ho' v x hv => ?_⟩
 · rw [ho] at ho'; cases ho'
   refine .inl ⟨Region.unguarded hg _, ?_⟩; obtain ⟨f, args, hrun, hcc⟩ := hc w hw hk; rw [hrun]; exact hcc.mono fun e w' he => ⟨V, he.1, (if_pos rfl).mpr rfl, (if_pos rfl : Keeps w0 (pv V) w w' = _).mpr he.2⟩
 · rw [ho] at ho'; cases ho'
   obtain rfl : v = V := hv rfl; rw [hd]; refine Steps.weaken (fun k w hkw => ?_) h
   by_cases e : k = i
   · rw [if_pos e]; trivial
   · rw [if_neg e] at hkw ⊢; exact hkw
end
section
variable {P : Program} {md : Region.Mode} {ops : Array Oper} {Q : Exit -> Act -> World -> Prop} {S : World -> Prop}
theorem take_store_part2 {j : Nat} {oj : Oper} {fuel : Nat} {listed : Array Bool} {a : Act} {w : World} (hj : ops[j]? = some oj) (hd : oj.dst = none)
    (hr : Region.ready md ops listed = [j]) (hg : oj.guard = none) (ty : TypeId) (x y : Operand) (ho : oj.op = .store ty x y) (b k : Nat) (T : TypeId) (pre mid post vs : List Value) (hx : a.eval x = .pointer (some ⟨b, k, none⟩)) (hy : a.eval y = .agg vs.toArray) (hB : Blk w b T (pre ++ (mid ++ post)).toArray) (hp : pre.length = k) (hl : vs.length = mid.length) (hi : (P.info? ty).map (·.size) = some vs.length) (h1 : ∀ v ∈ vs, v.oneCell' = true)
    (hS : ∀ w2, Blk w2 b T (pre ++ (vs ++ post)).toArray -> w.grownBy w2 (some b) -> S w2)
    (h : ∀ w2, Blk w2 b T (pre ++ (vs ++ post)).toArray -> w.grownBy w2 (some b) -> wpAnyH P md ops Q S fuel (listed.setIfInBounds j true) a w2) : wpAnyH P md ops Q S (fuel + 1) listed a w :=
 have hgr := setCells_grown b vs k w
 take_store_at hj hd hr hg (exec_store_part ty x y ho b k T pre mid post vs hx hy hB hp hl hi h1) (hS _ (by subst hp; exact Blk.midSet vs mid pre post w hB hl) hgr) (h _ (by subst hp; exact Blk.midSet vs mid pre post w hB hl) hgr)
end
end Go.Proofs.YtiemnacoebkalaaGreat
