/- Further laws on rows of digests: an empty row, rows of rows, appends in the text's order, a digest read in a quiet region. -/
import Derived.Test.YtjlkakggmfmfiaaDoorRow
import Derived.BigQuiet
set_option linter.unusedVariables false
namespace Go.Proofs.YtjlkakggmfmfiaaDoor
open Go Go.RowKit
namespace RK
end RK
theorem wpList_appH {ops : Array Oper} {rest : List Oper} {o : Oper} {a : Act} {Q : Exit → Act → World → Prop} {w : World} (hgd : o.guard = none) (s x : Operand) (t e : TypeId)
    (ho : o.op = .call { callee := .builtin .append, args := #[s, x], argTypes := #[t, t] })
    (ht : Tryd.prog.underlying t = some (.slice e)) (hinfo : (Tryd.prog.info? e).map (fun i => (i.zero, i.size, i.bytes)) = some (some (.agg (nums .u8 zeros32).toArray), 32, 32))
    (base : Nat) (v : Value) (n : Nat) (xs : List (List Int)) (hs : a.eval s = v) (hown : HOwn w base e v n xs)
    (g c : Nat) (y : List Int) (hx : a.eval x = .slice (some ⟨g, 0, none⟩) 1 c) {t' : TypeId} {fz : Nat × Nat} (hg : w.heap[g]? = some (.cells (nums .u8 y).toArray t' fz)) (hy : Dig y)
    (zs : List (List Int)) (hzz : xs ++ [y] = zs) (hn : n ≤ 1000000) (hbase : base ≤ w.heap.size)
    (h : ∀ A' c' w', HOwn w' base e (.slice A' (n + 1) c') (n + 1) zs → w.grownBy w' v.ownBlock → ((Value.slice A' (n + 1) c').ownBlock = v.ownBlock ∨ (Value.slice A' (n + 1) c').ownBlock = some w.heap.size) → wpList Tryd.prog ops Q rest (a.put o.dst (.slice A' (n + 1) c')) w') :
    wpList Tryd.prog ops Q (o :: rest) a w :=
  RK.wpList_appK hashK w hgd s x t ho (fun _ => False) base e (.agg (nums .u8 zeros32).toArray) 32 ht hinfo zsz32 (by show 0 < 32; omega) v n xs hs hown (fun _ h => h.elim) (some ⟨g, 0, none⟩) 1 c [y] hx (fun _ => True) (HC.one hg hy _ trivial) (fun _ _ h => h) (n + 1) zs rfl hzz (by unfold maxLen; omega) (by omega) hbase h
/-- append of a whole slice of digests. -/
theorem wpList_appHs {ops : Array Oper} {rest : List Oper} {o : Oper} {a : Act} {Q : Exit → Act → World → Prop} {w : World} (hgd : o.guard = none) (s x : Operand) (t e : TypeId)
    (ho : o.op = .call { callee := .builtin .append, args := #[s, x], argTypes := #[t, t] })
    (ht : Tryd.prog.underlying t = some (.slice e)) (hinfo : (Tryd.prog.info? e).map (fun i => (i.zero, i.size, i.bytes)) = some (some (.agg (nums .u8 zeros32).toArray), 32, 32))
    (base : Nat) (v : Value) (n : Nat) (xs : List (List Int)) (hs : a.eval s = v) (hown : HOwn w base e v n xs)
    (A : Option Addr) (m c : Nat) (ys : List (List Int)) (hx : a.eval x = .slice A m c) (hr : HC w A m ys)
    (N : Nat) (zs : List (List Int)) (hN : n + m = N) (hzz : xs ++ ys = zs) (hn : N ≤ 1000000) (hbase : base ≤ w.heap.size)
    (h : ∀ A' c' w', HOwn w' base e (.slice A' N c') N zs → w.grownBy w' v.ownBlock → ((Value.slice A' N c').ownBlock = v.ownBlock ∨ (Value.slice A' N c').ownBlock = some w.heap.size) → wpList Tryd.prog ops Q rest (a.put o.dst (.slice A' N c')) w') :
    wpList Tryd.prog ops Q (o :: rest) a w :=
  RK.wpList_appK hashK w hgd s x t ho (fun _ => False) base e (.agg (nums .u8 zeros32).toArray) 32 ht hinfo zsz32 (by show 0 < 32; omega) v n xs hs hown (fun _ h => h.elim) A m c ys hx (fun _ => True) hr (fun _ _ h => h) N zs hN hzz (by unfold maxLen; omega) (by omega) hbase h
section
variable {P : Program}
end
end Go.Proofs.YtjlkakggmfmfiaaDoor
