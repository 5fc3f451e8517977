/- Further laws on rows of digests: an empty row, rows of rows, appends in the text's order, a digest read in a quiet region. -/
import Derived.Test.YtjlkakggmfmfiaaDoorRow
import Derived.BigQuiet
set_option linter.unusedVariables false
namespace Go.Proofs.YtjlkakggmfmfiaaDoor
open Go Go.RowKit
theorem own_empty {w : World} {base : Nat} (e : TypeId) (size : Nat) (hb : base ≤ w.heap.size) : (w.alloc (.cells #[] e)).ownsRow base e size (.slice (some ⟨w.heap.size, 0, none⟩) 0 0) 0 [] :=
  ⟨by simp, .inr ⟨w.heap.size, 0, #[], rfl, hb, heap_alloc_new _ _, Nat.le_refl _, Nat.zero_le _, by simp, by simp⟩⟩
namespace RK
theorem Own.empty {α : Type} (d : RK α) (S : Nat → Prop) {w : World} {base : Nat} (e : TypeId) (hb : base ≤ w.heap.size) : d.Own S (w.alloc (.cells #[] e)) base e (.slice (some ⟨w.heap.size, 0, none⟩) 0 0) 0 [] :=
  ⟨rfl, [], own_empty e d.sz hb, fun i x h => by simp at h⟩
theorem Own.mono_ {α : Type} {d : RK α} {S S' : Nat → Prop} {w : World} {base n : Nat} {e : TypeId} {v : Value} {xs : List α} (h : d.Own S w base e v n xs) (hS : ∀ k, S k → S' k) : d.Own S' w base e v n xs := by
  obtain ⟨h1, cells, h2, h3⟩ := h
  refine ⟨h1, cells, h2, fun i x hx => ?_⟩
  obtain ⟨cs, hK, hcs⟩ := h3 i x hx
  exact ⟨cs, d.mono hS hK, hcs⟩
end RK
theorem wpList_appH {ops : Array Oper} {rest : List Oper} {o : Oper} {a : Act} {Q : Exit → Act → World → Prop} {w : World} (hgd : o.guard = none) (s x : Operand) (t e : TypeId)
    (ho : o.op = .call { callee := .builtin .append, args := #[s, x], argTypes := #[t, t] })
    (ht : Tryd.prog.underlying t = some (.slice e)) (hinfo : (Tryd.prog.info? e).map (fun i => (i.zero, i.size, i.bytes)) = some (some (.agg (nums .u8 zeros32).toArray), 32, 32))
    (base : Nat) (v : Value) (n : Nat) (xs : List (List Int)) (hs : a.eval s = v) (hown : HOwn w base e v n xs)
    (g c : Nat) (y : List Int) (hx : a.eval x = .slice (some ⟨g, 0, none⟩) 1 c) {t' : TypeId} {fz : Nat × Nat} (hg : w.heap[g]? = some (.cells (nums .u8 y).toArray t' fz)) (hy : Dig y)
    (zs : List (List Int)) (hzz : xs ++ [y] = zs) (hn : n ≤ 1000000) (hbase : base ≤ w.heap.size)
    (h : ∀ A' c' w', HOwn w' base e (.slice A' (n + 1) c') (n + 1) zs → w.grownBy w' v.ownBlock → ((Value.slice A' (n + 1) c').ownBlock = v.ownBlock ∨ (Value.slice A' (n + 1) c').ownBlock = some w.heap.size) → wpList Tryd.prog ops Q rest (a.put o.dst (.slice A' (n + 1) c')) w') :
    wpList Tryd.prog ops Q (o :: rest) a w :=
  RK.wpList_appK hashK w hgd s x t ho (fun _ => False) base e (.agg (nums .u8 zeros32).toArray) 32 ht hinfo zsz32 (by show 0 < 32; omega) v n xs hs hown (fun _ h => h.elim) (some ⟨g, 0, none⟩) 1 c [y] hx (fun _ => True) (HC.one hg hy _ trivial) (fun _ _ h => h) (n + 1) zs rfl hzz (by unfold maxLen; omega) (by omega) hbase h
/-- append of a whole slice of digests. -/
theorem wpList_appHs {ops : Array Oper} {rest : List Oper} {o : Oper} {a : Act} {Q : Exit → Act → World → Prop} {w : World} (hgd : o.guard = none) (s x : Operand) (t e : TypeId)
    (ho : o.op = .call { callee := .builtin .append, args := #[s, x], argTypes := #[t, t] })
    (ht : Tryd.prog.underlying t = some (.slice e)) (hinfo : (Tryd.prog.info? e).map (fun i => (i.zero, i.size, i.bytes)) = some (some (.agg (nums .u8 zeros32).toArray), 32, 32))
    (base : Nat) (v : Value) (n : Nat) (xs : List (List Int)) (hs : a.eval s = v) (hown : HOwn w base e v n xs)
    (A : Option Addr) (m c : Nat) (ys : List (List Int)) (hx : a.eval x = .slice A m c) (hr : HC w A m ys)
    (N : Nat) (zs : List (List Int)) (hN : n + m = N) (hzz : xs ++ ys = zs) (hn : N ≤ 1000000) (hbase : base ≤ w.heap.size)
    (h : ∀ A' c' w', HOwn w' base e (.slice A' N c') N zs → w.grownBy w' v.ownBlock → ((Value.slice A' N c').ownBlock = v.ownBlock ∨ (Value.slice A' N c').ownBlock = some w.heap.size) → wpList Tryd.prog ops Q rest (a.put o.dst (.slice A' N c')) w') :
    wpList Tryd.prog ops Q (o :: rest) a w :=
  RK.wpList_appK hashK w hgd s x t ho (fun _ => False) base e (.agg (nums .u8 zeros32).toArray) 32 ht hinfo zsz32 (by show 0 < 32; omega) v n xs hs hown (fun _ h => h.elim) A m c ys hx (fun _ => True) hr (fun _ _ h => h) N zs hN hzz (by unfold maxLen; omega) (by omega) hbase h
section
variable {P : Program}
theorem wpQuiet_load_mid {ops : Array Oper} {rest : List Oper} {o : Oper} {a : Act} {w : World} {Q : Act → Prop} (hgd : o.guard = none) (ty : TypeId) (x : Operand) (ho : o.op = .load ty x)
    (b off : Nat) (hx : a.eval x = .pointer (some ⟨b, off, none⟩)) (cs : List Value) (d : TypeDesc) (hr : w.rangeAt b off cs)
    (hu : P.underlying ty = some d) (hd : d.isRow = true) (hi : (P.info? ty).map (·.size) = some cs.length)
    (h : wpQuiet P ops (fun w' => ∃ n, w' = w.drewN n) Q rest (a.put o.dst (.agg cs.toArray))) : wpQuiet P ops (fun w' => ∃ n, w' = w.drewN n) Q (o :: rest) a :=
  BigFrame.wpQuiet_want (by simp [Region.wanted, hgd]) fun K hK => ⟨_, fun W hW => by
    obtain ⟨n, rfl⟩ := hW
    unfold Oper.quietAt execOp
    have hr' : (w.drewN n).rangeAt b off cs := hr
    simp only [ho, hx, Instr.loadAt, Instr.sureAddr, Sem.run_bind, Sem.run_pure, Result.andThen_ok, run_loadVar_mid (w.drewN n) b off ty cs d hr' hu hd hi]
    exact ⟨rfl, rfl⟩, hK _ h⟩
end
end Go.Proofs.YtjlkakggmfmfiaaDoor
