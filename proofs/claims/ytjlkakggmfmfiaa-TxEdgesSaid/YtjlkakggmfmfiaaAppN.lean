/- append onto a row of the call's own, its new length and content said by the caller. -/
import Derived.Test.YtjlkakggmfmfiaaWords
import Derived.Test.YtjlkakggmfmfiaaMore
import Derived.ArgAppend
set_option linter.unusedVariables false
namespace Go.Proofs.Ytjlkakggmfmfiaa
open Go Go.RowKit
section
variable {P : Program} {w : World}
theorem wpList_appN {ops : Array Oper} {rest : List Oper} {o : Oper} {a : Act} {Q : Exit → Act → World → Prop} (hgd : o.guard = none) (s x : Operand) (t : TypeId)
    (ho : o.op = .call { callee := .builtin .append, args := #[s, x], argTypes := #[t, t] })
    (base : Nat) (e : TypeId) (z : Value) (bytes : Nat) (ht : P.underlying t = some (.slice e)) (hinfo : (P.info? e).map (fun i => (i.zero, i.size, i.bytes)) = some (some z, 1, bytes)) (hzs : z.cells.size = 1)
    (v : Value) (n : Nat) (xs : List Value) (hs : a.eval s = v) (hown : w.ownsRow base e 1 v n xs)
    (A : Option Addr) (m c : Nat) (news : List Value) (hx : a.eval x = .slice A m c) (hr : Rd w A m news) (h1 : ∀ u ∈ news, u.oneCell' = true)
    (N : Nat) (zs : List Value) (hN : n + m = N) (hz : xs ++ news = zs)
    (h63 : N ≤ maxLen) (hbytes : N * bytes ≤ 140737488355328) (hbase : base ≤ w.heap.size)
    (h : ∀ A' c' w', w'.ownsRow base e 1 (.slice A' N c') N zs → w.grownBy w' v.ownBlock → ((Value.slice A' N c').ownBlock = v.ownBlock ∨ (Value.slice A' N c').ownBlock = some w.heap.size) → wpList P ops Q rest (a.put o.dst (.slice A' N c')) w') : wpList P ops Q (o :: rest) a w := by
  subst hN
  subst hz
  exact wpList_app w hgd s x t ho base e z bytes ht hinfo hzs v n xs hs hown A m c news hx hr h1 h63 hbytes hbase h
theorem step_appN {ops : Array Oper} {o : Oper} {a : Act} {K : Act → World → Prop} {Q : Exit → Act → World → Prop} {E : Prop} (hgd : o.guard = none) (s x : Operand) (t : TypeId)
    (ho : o.op = .call { callee := .builtin .append, args := #[s, x], argTypes := #[t, t] })
    (base : Nat) (e : TypeId) (z : Value) (bytes : Nat) (ht : P.underlying t = some (.slice e)) (hinfo : (P.info? e).map (fun i => (i.zero, i.size, i.bytes)) = some (some z, 1, bytes)) (hzs : z.cells.size = 1)
    (v : Value) (n : Nat) (xs : List Value) (hs : a.eval s = v) (hown : w.ownsRow base e 1 v n xs)
    (A : Option Addr) (m c : Nat) (news : List Value) (hx : a.eval x = .slice A m c) (hr : Rd w A m news) (h1 : ∀ u ∈ news, u.oneCell' = true)
    (N : Nat) (zs : List Value) (hN : n + m = N) (hz : xs ++ news = zs)
    (h63 : N ≤ maxLen) (hbytes : N * bytes ≤ 140737488355328) (hbase : base ≤ w.heap.size)
    (h : ∀ A' c' w', w'.ownsRow base e 1 (.slice A' N c') N zs → w.grownBy w' v.ownBlock → ((Value.slice A' N c').ownBlock = v.ownBlock ∨ (Value.slice A' N c').ownBlock = some w.heap.size) → K (a.put o.dst (.slice A' N c')) w') :
    if Region.wanted o (yielded ops a.tmps) = true then Oper.wp P o a w K Q else E := by
  subst hN
  subst hz
  exact step_app w hgd s x t ho base e z bytes ht hinfo hzs v n xs hs hown A m c news hx hr h1 h63 hbytes hbase h
/-- append onto a slice that is full: a new row is made. -/
theorem wpList_appG {ops : Array Oper} {rest : List Oper} {o : Oper} {a : Act} {Q : Exit → Act → World → Prop} (hgd : o.guard = none) (s x : Operand) (t : TypeId)
    (ho : o.op = .call { callee := .builtin .append, args := #[s, x], argTypes := #[t, t] })
    (e : TypeId) (z : Value) (bytes : Nat) (ht : P.underlying t = some (.slice e)) (hinfo : (P.info? e).map (fun i => (i.zero, i.size, i.bytes)) = some (some z, 1, bytes)) (hzs : z.cells.size = 1)
    (A : Option Addr) (n cap : Nat) (olds : List Value) (hs : a.eval s = .slice A n cap) (hro : Rd w A n olds) (hn0 : 0 < n)
    (B : Option Addr) (m c : Nat) (news : List Value) (hx : a.eval x = .slice B m c) (hr : Rd w B m news) (hm0 : 0 < m) (h1 : ∀ u ∈ news, u.oneCell' = true)
    (hfull : cap < n + m) (N : Nat) (zs : List Value) (hN : n + m = N) (hz : olds ++ news = zs) (h63 : N ≤ maxLen) (hbytes : N * bytes ≤ 140737488355328)
    (h : ∀ g c' w', w'.ownsRow w.heap.size e 1 (.slice (some ⟨g, 0, none⟩) N c') N zs → w.heap.size ≤ g → Below w.heap.size w w' → wpList P ops Q rest (a.put o.dst (.slice (some ⟨g, 0, none⟩) N c')) w') : wpList P ops Q (o :: rest) a w := by
  subst hN
  subst hz
  obtain ⟨inf, hi, hz, hsize, hby⟩ : ∃ i, P.info? e = some i ∧ i.zero = some z ∧ i.size = 1 ∧ i.bytes = bytes := by
    cases h : P.info? e with
    | none => rw [h] at hinfo; cases hinfo
    | some i => exact ⟨i, rfl, by simpa [h] using hinfo⟩
  obtain ⟨b, o1, rfl, hc1⟩ := hro.2 hn0
  obtain ⟨b2, o2, rfl, hc2⟩ := hr.2 hm0
  refine wpList_append_grows w hgd s x t ho e inf z 1 bytes ht hi hz hsize hby hzs (by decide) (some ⟨b, o1, none⟩) n cap olds hs (fun h => by cases h) (by rw [hro.1, Nat.mul_one]) (fun p hp j u hu => by obtain rfl := Option.some.inj hp; rw [add_plain']; exact hc1 j u hu)
    ⟨b2, o2, none⟩ m c news hx (by rw [hr.1, Nat.mul_one]) (fun j u hu => by rw [add_plain']; exact hc2 j u hu) h1 hfull h63 hbytes ?_
  intro v' w' hown hgrow
  obtain ⟨g, c', rfl, hg, hlt⟩ := hown.form (by omega)
  exact h g c' w' hown hg ⟨hgrow.os, hgrow.tape, hgrow.output, hgrow.size, fun k hk => hgrow.block k hk (fun e => by cases e)⟩
end
theorem own_le {w : World} {base n c : Nat} {e : TypeId} {size : Nat} {A : Option Addr} {xs : List Value} (h : w.ownsRow base e size (.slice A n c) n xs) : n ≤ c ∧ c ≤ maxLen := by
  rcases h.2 with ⟨hv, _⟩ | ⟨g, cap, cur, hv, _, _, h3, h4, _⟩
  · injection hv with e1 e2 e3
    subst e2 e3
    exact ⟨Nat.le_refl _, Nat.zero_le _⟩
  · injection hv with e1 e2 e3
    subst e3
    exact ⟨h3, h4⟩
/-- The world, said: fails at once where it is another (under with_reducible). -/
theorem at_world {P : Program} {ops : Array Oper} {o : Oper} {a : Act} {K : Act → World → Prop} {Q : Exit → Act → World → Prop} {E : Prop} (w : World) (h : if Region.wanted o (yielded ops a.tmps) = true then Oper.wp P o a w K Q else E) : if Region.wanted o (yielded ops a.tmps) = true then Oper.wp P o a w K Q else E := h
theorem grown_trans {w w1 w2 : World} {row : Option Nat} (h : w.grownBy w1 row) (k : w1.grownBy w2 row) : w.grownBy w2 row :=
  ⟨k.os.trans h.os, k.tape.trans h.tape, k.output.trans h.output, Nat.le_trans h.size k.size, fun i hi hne => (k.block i (Nat.lt_of_lt_of_le hi h.size) hne).trans (h.block i hi hne)⟩
theorem grown_below {w w1 w2 : World} {row : Option Nat} (h : Below w.heap.size w w1) (k : w1.grownBy w2 row) : w.grownBy w2 row := grown_trans (grown_of_below h row) k
theorem own_drew1 {w : World} {base n : Nat} {e : TypeId} {size : Nat} {v : Value} {xs : List Value} (h : w.ownsRow base e size v n xs) : w.drew.ownsRow base e size v n xs := h
theorem Rd.drew1 {w : World} {A : Option Addr} {n : Nat} {xs : List Value} (h : Rd w A n xs) : Rd w.drew A n xs := h
def findR (n : Nat) : Code → Option Code
  | .region id ops d => if id = n then some (.region id ops d) else none
  | .loop c => findR n c
  | .seq a b => match findR n a with
    | some c => some c
    | none => findR n b
  | .block _ c => findR n c
  | .scope c => findR n c
  | .cond _ a b => match findR n a with
    | some c => some c
    | none => findR n b
  | _ => none
end Go.Proofs.Ytjlkakggmfmfiaa
