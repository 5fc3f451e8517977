/- Rows of digests: reading them, making them, appending onto them. | Further laws on rows of digests: an empty row, rows of rows, appends in the text's order, a digest read in a quiet region. -/
import Derived.Test.YtclkgflficlmiaaDoorBlkPure
import Derived.Test.YtclkgflficlmiaaDoorBase
import Derived.Deep.RegionHeld3
import Derived.Great.BuildSlice
import Derived.BigQuiet
/-! ## Row -/
section
set_option linter.unusedVariables false
namespace Go.Proofs.YtclkgflficlmiaaDoor
open Go Go.RowKit
abbrev hashK : RK (List Int) := RK.hash 32
/-- A slice of digests that reads as ids. -/
abbrev HC (w : World) (A : Option Addr) (n : Nat) (ids : List (List Int)) : Prop := hashK.C (fun _ => True) w A n ids
/-- A row of digests of the call's own. -/
abbrev HOwn (w : World) (base : Nat) (e : TypeId) (v : Value) (n : Nat) (ids : List (List Int)) : Prop := hashK.Own (fun _ => False) w base e v n ids
theorem HC.of {S : Nat → Prop} {w : World} {A : Option Addr} {n : Nat} {ids : List (List Int)} (h : hashK.C S w A n ids) : HC w A n ids := h.mono fun _ _ => trivial
theorem HC.digs {S : Nat → Prop} {w : World} {A : Option Addr} {n : Nat} {ids : List (List Int)} (h : hashK.C S w A n ids) : Digs ids := by
  intro x hx
  obtain ⟨i, hi, rfl⟩ := List.mem_iff_getElem.1 hx
  obtain ⟨b, o, hA, _, _, hc⟩ := h.2 (by have := h.1; omega)
  obtain ⟨cs, hK, _⟩ := hc i _ (List.getElem?_eq_getElem hi)
  exact hK.2
theorem HC.addr {S : Nat → Prop} {w : World} {A : Option Addr} {n : Nat} {ids : List (List Int)} (h : hashK.C S w A n ids) (hn : 0 < n) :
    ∃ b o, A = some ⟨b, o, none⟩ ∧ b < w.heap.size ∧ ∀ i, i < n → w.rangeAt b (o + i * 32) (nums .u8 (dg ids i)) := by
  obtain ⟨b, o, hA, hS, hb, hc⟩ := h.2 hn
  refine ⟨b, o, hA, hb, fun i hi => ?_⟩
  obtain ⟨cs, hK, hcs⟩ := hc i _ (dg_get ids i (by rw [h.1]; exact hi))
  rw [hK.1] at hcs
  exact hcs
theorem HC.one {w : World} {g : Nat} {t : TypeId} {fz : Nat × Nat} {x : List Int} (h : w.heap[g]? = some (.cells (nums .u8 x).toArray t fz)) (hx : Dig x) (S : Nat → Prop) (hS : S g) : hashK.C S w (some ⟨g, 0, none⟩) 1 [x] := by
  refine ⟨rfl, fun _ => ⟨g, 0, rfl, hS, heap_lt h, fun i y hy => ?_⟩⟩
  obtain rfl : i = 0 := by have := (List.getElem?_eq_some_iff.1 hy).1; simp at this; omega
  obtain rfl : x = y := by simpa using hy
  refine ⟨nums .u8 x, ⟨rfl, hx.1, hx.2⟩, fun j v hv => ?_⟩
  rw [show 0 + 0 * hashK.sz + j = j by omega]
  exact blk_cell h (by simpa using hv)
theorem HOwn.C {w : World} {base n c : Nat} {e : TypeId} {A : Option Addr} {ids : List (List Int)} (h : HOwn w base e (.slice A n c) n ids) : HC w A n ids := RK.Own.C_ h (fun _ h => h.elim) (fun _ _ => trivial)
theorem came_hash {P : Program} {t e : TypeId} (ht : P.underlying t = some (.array 32 e)) (he : P.underlying e = some (.int .u8)) (hc : P.cellsOf e = 1) (hct : P.cellsOf t = 32) : Came P t (RK.hash 32) :=
  ⟨hct, by show 0 < 32; omega, fun h => by
    obtain ⟨ns, h1, h2, h3⟩ := trod_nums ht he hc hct h
    exact ⟨ns, h2, h1, bytes_of_wf h3⟩⟩
theorem zinfo_hash : (Tryd.prog.info? 24).map (fun i => (i.zero, i.size, i.bytes)) = some (some (.agg (nums .u8 zeros32).toArray), 32, 32) := by kernel_rfl
theorem zinfo_a32 : (Tryd.prog.info? 23).map (fun i => (i.zero, i.size, i.bytes)) = some (some (.agg (nums .u8 zeros32).toArray), 32, 32) := by kernel_rfl
theorem ilen_hash (xs : List Int) (h : xs.length = 32) : (Tryd.prog.info? 24).map (·.size) = some (nums .u8 xs).length := by rw [nums_length, h]; exact info_hash
theorem ilen_a32 (xs : List Int) (h : xs.length = 32) : (Tryd.prog.info? 23).map (·.size) = some (nums .u8 xs).length := by rw [nums_length, h]; kernel_rfl
theorem zsz32 : (Value.agg (nums .u8 zeros32).toArray).cells.size = hashK.sz := by rfl
/-- append of one digest onto a row of the call's own. -/
theorem step_appH {ops : Array Oper} {o : Oper} {a : Act} {K : Act → World → Prop} {Q : Exit → Act → World → Prop} {E : Prop} {w : World} (hgd : o.guard = none) (s x : Operand) (t e : TypeId)
    (ho : o.op = .call { callee := .builtin .append, args := #[s, x], argTypes := #[t, t] })
    (ht : Tryd.prog.underlying t = some (.slice e)) (hinfo : (Tryd.prog.info? e).map (fun i => (i.zero, i.size, i.bytes)) = some (some (.agg (nums .u8 zeros32).toArray), 32, 32))
    (base : Nat) (v : Value) (n : Nat) (xs : List (List Int)) (hs : a.eval s = v) (hown : HOwn w base e v n xs)
    (g c : Nat) (y : List Int) (hx : a.eval x = .slice (some ⟨g, 0, none⟩) 1 c) {t' : TypeId} {fz : Nat × Nat} (hg : w.heap[g]? = some (.cells (nums .u8 y).toArray t' fz)) (hy : Dig y)
    (zs : List (List Int)) (hzz : xs ++ [y] = zs) (hn : n ≤ 1000000) (hbase : base ≤ w.heap.size)
    (h : ∀ A' c' w', HOwn w' base e (.slice A' (n + 1) c') (n + 1) zs → w.grownBy w' v.ownBlock → ((Value.slice A' (n + 1) c').ownBlock = v.ownBlock ∨ (Value.slice A' (n + 1) c').ownBlock = some w.heap.size) → K (a.put o.dst (.slice A' (n + 1) c')) w') :
    if Region.wanted o (yielded ops a.tmps) = true then Oper.wp Tryd.prog o a w K Q else E :=
  RK.step_appK hashK w hgd s x t ho (fun _ => False) base e (.agg (nums .u8 zeros32).toArray) 32 ht hinfo zsz32 (by show 0 < 32; omega) v n xs hs hown (fun _ h => h.elim) (some ⟨g, 0, none⟩) 1 c [y] hx (fun _ => True) (HC.one hg hy _ trivial) (fun _ _ h => h) (n + 1) zs rfl hzz (by unfold maxLen; omega) (by omega) hbase h
/-- The cells of digests, side by side. -/
def flatH (xs : List (List Int)) : List Value := xs.flatMap fun x => nums .u8 x
theorem flatH_one (x : List Int) : flatH [x] = nums .u8 x := by simp [flatH]
theorem flatH_get {xs : List (List Int)} (h : Digs xs) (i : Nat) (x : List Int) (hx : xs[i]? = some x) (j : Nat) (u : Value) (hu : (nums .u8 x)[j]? = some u) : (flatH xs)[i * 32 + j]? = some u := by
  induction xs generalizing i with
  | nil => simp at hx
  | cons y ys ih =>
    have hy : (nums .u8 y).length = 32 := by rw [nums_length]; exact (h y (by simp)).1
    simp only [flatH, List.flatMap_cons]
    rcases i with _ | i
    · obtain rfl : y = x := by simpa using hx
      have hj := (List.getElem?_eq_some_iff.1 hu).1
      rw [Nat.zero_mul, Nat.zero_add, List.getElem?_append_left hj]
      exact hu
    · rw [List.getElem?_append_right (by rw [hy]; omega), hy, show (i + 1) * 32 + j - 32 = i * 32 + j by omega]
      exact ih (fun z hz => h z (List.mem_cons_of_mem _ hz)) i (by simpa using hx)
theorem flatH_length {xs : List (List Int)} (h : Digs xs) : (flatH xs).length = xs.length * 32 := by
  induction xs with
  | nil => rfl
  | cons y ys ih =>
    have := ih (fun z hz => h z (List.mem_cons_of_mem _ hz))
    simp only [flatH] at this
    simp only [flatH, List.flatMap_cons, List.length_append, nums_length, (h y (by simp)).1, this, List.length_cons]
    omega
theorem HC.of_flat {w : World} {g : Nat} {t : TypeId} {fz : Nat × Nat} {xs : List (List Int)} (h : w.heap[g]? = some (.cells (flatH xs).toArray t fz)) (hx : Digs xs) : HC w (some ⟨g, 0, none⟩) xs.length xs := by
  refine ⟨rfl, fun _ => ⟨g, 0, rfl, trivial, heap_lt h, fun i y hy => ⟨nums .u8 y, ⟨rfl, hx y (List.mem_of_getElem? hy)⟩, fun j v hv => ?_⟩⟩⟩
  rw [Nat.zero_add]
  exact blk_cell h (by rw [List.getElem?_toArray]; exact flatH_get hx i y hy j v hv)
theorem flat_cells (xs : List (List Int)) : ((xs.map fun x => Value.agg (nums .u8 x).toArray).flatMap fun v => v.cells.toList) = flatH xs := by
  simp [flatH, List.flatMap_map, Value.cells]
section
variable {w : World}
theorem run_buildH (t e : TypeId) (len : Nat) (parts : Array (Nat × Value)) (ht : Tryd.prog.underlying t = some (.slice e)) (hinfo : (Tryd.prog.info? e).map (fun i => (i.zero, i.size, i.bytes)) = some (some (.agg (nums .u8 zeros32).toArray), 32, 32))
    (xs : List (List Int)) (hp : parts.toList = ((xs.map fun x => Value.agg (nums .u8 x).toArray).zipIdx 0).map fun x => (x.2, x.1)) (hd : Digs xs) (hl : xs.length = len) (h0 : 0 < len) (h1 : len ≤ 1000) :
    (Instr.buildSlice t len parts).run Tryd.prog w = .ok (.slice (some ⟨w.heap.size, 0, none⟩) len len) (w.alloc (.cells (flatH xs).toArray e)) := by
  obtain ⟨i, hi, hz, hsize, hby⟩ : ∃ i, Tryd.prog.info? e = some i ∧ i.zero = some (.agg (nums .u8 zeros32).toArray) ∧ i.size = 32 ∧ i.bytes = 32 := by
    cases h : Tryd.prog.info? e with
    | none => rw [h] at hinfo; cases hinfo
    | some i => rw [h] at hinfo; simp only [Option.map_some, Option.some.injEq, Prod.mk.injEq] at hinfo; exact ⟨i, rfl, hinfo.1, hinfo.2.1, hinfo.2.2⟩
  refine run_buildSlice w t e len parts _ i _ ht hi hz (by rw [hsize]; omega) (by rw [hsize]; omega) ?_
  rw [hp, hsize, Great.fill_whole (by decide) _ _ (fun v hv => by
    simp only [List.mem_map] at hv
    obtain ⟨x, hx, rfl⟩ := hv
    show (nums .u8 x).toArray.size = 32
    rw [nums_size, (hd x hx).1]) (by simp [hl]), flat_cells]
theorem wp_buildH {o : Oper} {a : Act} {K : Act → World → Prop} {Q : Exit → Act → World → Prop} (t e : TypeId) (len : Nat) (parts : Array (Nat × Operand)) (ho : o.op = .buildSlice t len parts)
    (ht : Tryd.prog.underlying t = some (.slice e)) (hinfo : (Tryd.prog.info? e).map (fun i => (i.zero, i.size, i.bytes)) = some (some (.agg (nums .u8 zeros32).toArray), 32, 32))
    (xs : List (List Int)) (hp : parts.toList.map (fun y => (y.1, a.eval y.2)) = ((xs.map fun x => Value.agg (nums .u8 x).toArray).zipIdx 0).map fun x => (x.2, x.1)) (hd : Digs xs) (hl : xs.length = len) (h0 : 0 < len) (h1 : len ≤ 1000) (cells : List Value) (hc : flatH xs = cells)
    (h : K (a.put o.dst (.slice (some ⟨w.heap.size, 0, none⟩) len len)) (w.alloc (.cells cells.toArray e))) : o.wp Tryd.prog a w K Q := by
  subst hc
  unfold Oper.wp execOp
  simp only [ho, Sem.run_bind, run_buildH t e len (parts.map fun (i, x) => (i, a.eval x)) ht hinfo xs (by rw [Array.toList_map]; exact hp) hd hl h0 h1, Result.andThen_ok]
  exact h
theorem wpList_buildH {ops : Array Oper} {rest : List Oper} {o : Oper} {a : Act} {Q : Exit → Act → World → Prop} (hgd : o.guard = none) (t e : TypeId) (len : Nat) (parts : Array (Nat × Operand)) (ho : o.op = .buildSlice t len parts)
    (ht : Tryd.prog.underlying t = some (.slice e)) (hinfo : (Tryd.prog.info? e).map (fun i => (i.zero, i.size, i.bytes)) = some (some (.agg (nums .u8 zeros32).toArray), 32, 32))
    (xs : List (List Int)) (hp : parts.toList.map (fun y => (y.1, a.eval y.2)) = ((xs.map fun x => Value.agg (nums .u8 x).toArray).zipIdx 0).map fun x => (x.2, x.1)) (hd : Digs xs) (hl : xs.length = len) (h0 : 0 < len) (h1 : len ≤ 1000) (cells : List Value) (hc : flatH xs = cells)
    (h : wpList Tryd.prog ops Q rest (a.put o.dst (.slice (some ⟨w.heap.size, 0, none⟩) len len)) (w.alloc (.cells cells.toArray e))) : wpList Tryd.prog ops Q (o :: rest) a w :=
  wpList_plain hgd fun _ hK => wp_buildH t e len parts ho ht hinfo xs hp hd hl h0 h1 cells hc (hK _ _ h)
theorem step_buildH {ops : Array Oper} {o : Oper} {a : Act} {K : Act → World → Prop} {Q : Exit → Act → World → Prop} {E : Prop} (hw : Region.wanted o (yielded ops a.tmps) = true) (t e : TypeId) (len : Nat) (parts : Array (Nat × Operand)) (ho : o.op = .buildSlice t len parts)
    (ht : Tryd.prog.underlying t = some (.slice e)) (hinfo : (Tryd.prog.info? e).map (fun i => (i.zero, i.size, i.bytes)) = some (some (.agg (nums .u8 zeros32).toArray), 32, 32))
    (xs : List (List Int)) (hp : parts.toList.map (fun y => (y.1, a.eval y.2)) = ((xs.map fun x => Value.agg (nums .u8 x).toArray).zipIdx 0).map fun x => (x.2, x.1)) (hd : Digs xs) (hl : xs.length = len) (h0 : 0 < len) (h1 : len ≤ 1000) (cells : List Value) (hc : flatH xs = cells)
    (h : K (a.put o.dst (.slice (some ⟨w.heap.size, 0, none⟩) len len)) (w.alloc (.cells cells.toArray e))) : if Region.wanted o (yielded ops a.tmps) = true then Oper.wp Tryd.prog o a w K Q else E := by
  rw [if_pos hw]
  exact wp_buildH t e len parts ho ht hinfo xs hp hd hl h0 h1 cells hc h
end
end Go.Proofs.YtclkgflficlmiaaDoor
end

/-! ## Row2 -/
section
set_option linter.unusedVariables false
namespace Go.Proofs.YtclkgflficlmiaaDoor
open Go Go.RowKit
namespace RK
end RK
theorem wpList_appH {ops : Array Oper} {rest : List Oper} {o : Oper} {a : Act} {Q : Exit → Act → World → Prop} {w : World} (hgd : o.guard = none) (s x : Operand) (t e : TypeId)
    (ho : o.op = .call { callee := .builtin .append, args := #[s, x], argTypes := #[t, t] })
    (ht : Tryd.prog.underlying t = some (.slice e)) (hinfo : (Tryd.prog.info? e).map (fun i => (i.zero, i.size, i.bytes)) = some (some (.agg (nums .u8 zeros32).toArray), 32, 32))
    (base : Nat) (v : Value) (n : Nat) (xs : List (List Int)) (hs : a.eval s = v) (hown : HOwn w base e v n xs)
    (g c : Nat) (y : List Int) (hx : a.eval x = .slice (some ⟨g, 0, none⟩) 1 c) {t' : TypeId} {fz : Nat × Nat} (hg : w.heap[g]? = some (.cells (nums .u8 y).toArray t' fz)) (hy : Dig y)
    (zs : List (List Int)) (hzz : xs ++ [y] = zs) (hn : n ≤ 1000000) (hbase : base ≤ w.heap.size)
    (h : ∀ A' c' w', HOwn w' base e (.slice A' (n + 1) c') (n + 1) zs → w.grownBy w' v.ownBlock → ((Value.slice A' (n + 1) c').ownBlock = v.ownBlock ∨ (Value.slice A' (n + 1) c').ownBlock = some w.heap.size) → wpList Tryd.prog ops Q rest (a.put o.dst (.slice A' (n + 1) c')) w') :
    wpList Tryd.prog ops Q (o :: rest) a w :=
  RK.wpList_appK hashK w hgd s x t ho (fun _ => False) base e (.agg (nums .u8 zeros32).toArray) 32 ht hinfo zsz32 (by show 0 < 32; omega) v n xs hs hown (fun _ h => h.elim) (some ⟨g, 0, none⟩) 1 c [y] hx (fun _ => True) (HC.one hg hy _ trivial) (fun _ _ h => h) (n + 1) zs rfl hzz (by unfold maxLen; omega) (by omega) hbase h
/-- append of a whole slice of digests. -/
theorem wpList_appHs {ops : Array Oper} {rest : List Oper} {o : Oper} {a : Act} {Q : Exit → Act → World → Prop} {w : World} (hgd : o.guard = none) (s x : Operand) (t e : TypeId)
    (ho : o.op = .call { callee := .builtin .append, args := #[s, x], argTypes := #[t, t] })
    (ht : Tryd.prog.underlying t = some (.slice e)) (hinfo : (Tryd.prog.info? e).map (fun i => (i.zero, i.size, i.bytes)) = some (some (.agg (nums .u8 zeros32).toArray), 32, 32))
    (base : Nat) (v : Value) (n : Nat) (xs : List (List Int)) (hs : a.eval s = v) (hown : HOwn w base e v n xs)
    (A : Option Addr) (m c : Nat) (ys : List (List Int)) (hx : a.eval x = .slice A m c) (hr : HC w A m ys)
    (N : Nat) (zs : List (List Int)) (hN : n + m = N) (hzz : xs ++ ys = zs) (hn : N ≤ 1000000) (hbase : base ≤ w.heap.size)
    (h : ∀ A' c' w', HOwn w' base e (.slice A' N c') N zs → w.grownBy w' v.ownBlock → ((Value.slice A' N c').ownBlock = v.ownBlock ∨ (Value.slice A' N c').ownBlock = some w.heap.size) → wpList Tryd.prog ops Q rest (a.put o.dst (.slice A' N c')) w') :
    wpList Tryd.prog ops Q (o :: rest) a w :=
  RK.wpList_appK hashK w hgd s x t ho (fun _ => False) base e (.agg (nums .u8 zeros32).toArray) 32 ht hinfo zsz32 (by show 0 < 32; omega) v n xs hs hown (fun _ h => h.elim) A m c ys hx (fun _ => True) hr (fun _ _ h => h) N zs hN hzz (by unfold maxLen; omega) (by omega) hbase h
section
variable {P : Program}
end
end Go.Proofs.YtclkgflficlmiaaDoor
end
