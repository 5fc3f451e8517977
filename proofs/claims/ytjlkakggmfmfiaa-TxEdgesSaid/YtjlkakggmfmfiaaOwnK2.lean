/- append onto a row of the call's own of elements whose inner rows lie in held blocks, from wherever the new elements lie. -/
import Derived.Test.YtjlkakggmfmfiaaOwnK
set_option linter.unusedVariables false
namespace Go.Proofs.Ytjlkakggmfmfiaa
open Go Go.RowKit
/-- The operation that stands next is the one that fills slot d: a cheap test ahead of a dear law. -/
theorem wpList_at {P : Program} {ops : Array Oper} {Q : Exit → Act → World → Prop} {rest : List Oper} {a : Act} {w : World} (d : Nat) {op : Op} {ty : TypeId} {pos : String} {after : Array Edge} {g : Option (Nat × Bool)} (h : wpList P ops Q (⟨some d, op, ty, pos, after, g⟩ :: rest) a w) : wpList P ops Q (⟨some d, op, ty, pos, after, g⟩ :: rest) a w := h
/-- The operation that stands next is a store into what x points to. -/
theorem wpList_atS {P : Program} {ops : Array Oper} {Q : Exit → Act → World → Prop} {rest : List Oper} {a : Act} {w : World} (x : Nat) {t : TypeId} {y : Operand} {ty : TypeId} {pos : String} {after : Array Edge} {g : Option (Nat × Bool)} (h : wpList P ops Q (⟨none, .store t (.tmp x) y, ty, pos, after, g⟩ :: rest) a w) : wpList P ops Q (⟨none, .store t (.tmp x) y, ty, pos, after, g⟩ :: rest) a w := h
namespace RK
/-- Elements that lie somewhere (their own block is of no matter), their inner rows in S. -/
def Src {α : Type} (d : RK α) (S : Nat → Prop) (w : World) (A : Option Addr) (m : Nat) (ys : List α) : Prop :=
  ys.length = m ∧ (0 < m → ∃ b o, A = some ⟨b, o, none⟩ ∧ ∀ i x, ys[i]? = some x → ∃ cs, d.K S w x cs ∧ ∀ j v, cs[j]? = some v → w.cell? ⟨b, o + i * d.sz + j, none⟩ = some v)
theorem Src.one {α : Type} {d : RK α} {S : Nat → Prop} {w : World} {g : Nat} {t : TypeId} {fz : Nat × Nat} {x : α} {cs : List Value} (h : w.heap[g]? = some (.cells cs.toArray t fz)) (hK : d.K S w x cs) : d.Src S w (some ⟨g, 0, none⟩) 1 [x] := by
  refine ⟨rfl, fun _ => ⟨g, 0, rfl, fun i y hy => ?_⟩⟩
  obtain rfl : i = 0 := by have := (List.getElem?_eq_some_iff.1 hy).1; simp at this; omega
  obtain rfl : x = y := by simpa using hy
  refine ⟨cs, hK, fun j v hv => ?_⟩
  rw [show 0 + 0 * d.sz + j = j by omega]
  exact blk_cell h (by rw [List.getElem?_toArray]; exact hv)
theorem C.src {α : Type} {d : RK α} {S : Nat → Prop} {w : World} {A : Option Addr} {m : Nat} {ys : List α} (h : d.C S w A m ys) : d.Src S w A m ys :=
  ⟨h.1, fun hm => by obtain ⟨b, o, hA, _, _, hc⟩ := h.2 hm; exact ⟨b, o, hA, hc⟩⟩
theorem Src.mono {α : Type} {d : RK α} {S S' : Nat → Prop} {w : World} {A : Option Addr} {m : Nat} {ys : List α} (h : d.Src S w A m ys) (hS : ∀ k, S k → S' k) : d.Src S' w A m ys :=
  ⟨h.1, fun hm => by obtain ⟨b, o, hA, hc⟩ := h.2 hm; exact ⟨b, o, hA, fun i x hx => by obtain ⟨cs, hK, hcs⟩ := hc i x hx; exact ⟨cs, d.mono hS hK, hcs⟩⟩⟩
section
variable {P : Program} {α : Type} (d : RK α) (w : World)
theorem run_appK' (S : Nat → Prop) (base : Nat) (t ty e : TypeId) (z : Value) (bytes : Nat) (ht : P.underlying t = some (.slice e)) (hinfo : (P.info? e).map (fun i => (i.zero, i.size, i.bytes)) = some (some z, d.sz, bytes)) (hzs : z.cells.size = d.sz) (hsz : 0 < d.sz)
    (v : Value) (n : Nat) (xs : List α) (hown : d.Own S w base e v n xs) (hS : ∀ k, S k → some k ≠ v.ownBlock)
    (A : Option Addr) (m c : Nat) (ys : List α) (hr : d.Src S w A m ys)
    (h63 : n + m ≤ maxLen) (hbytes : (n + m) * bytes ≤ 140737488355328) (hbase : base ≤ w.heap.size) :
    ∃ A' c' w', (Builtin.append_ #[t, t] ty #[v, .slice A m c]).run P w = .ok (.slice A' (n + m) c') w' ∧ d.Own S w' base e (.slice A' (n + m) c') (n + m) (xs ++ ys) ∧ w.grownBy w' v.ownBlock ∧
      ((Value.slice A' (n + m) c').ownBlock = v.ownBlock ∨ (Value.slice A' (n + m) c').ownBlock = some w.heap.size) := by
  obtain ⟨hl, cells, how, hcells⟩ := hown
  obtain ⟨i, hi, hz, hsize, hby⟩ : ∃ i, P.info? e = some i ∧ i.zero = some z ∧ i.size = d.sz ∧ i.bytes = bytes := by
    cases h : P.info? e with
    | none => rw [h] at hinfo; cases hinfo
    | some i => rw [h] at hinfo; simp only [Option.map_some, Option.some.injEq, Prod.mk.injEq] at hinfo; exact ⟨i, rfl, hinfo.1, hinfo.2.1, hinfo.2.2⟩
  have fin : ∀ v' w' (news : List Value), (Builtin.append_ #[t, t] ty #[v, .slice A m c]).run P w = .ok v' w' → w'.ownsRow base e d.sz v' (n + m) (cells ++ news) → w.grownBy w' v.ownBlock → (v'.ownBlock = v.ownBlock ∨ v'.ownBlock = some w.heap.size) →
      (∀ i x, ys[i]? = some x → ∃ cs, d.K S w x cs ∧ ∀ j u, cs[j]? = some u → news[i * d.sz + j]? = some u) →
      ∃ A' c' w', (Builtin.append_ #[t, t] ty #[v, .slice A m c]).run P w = .ok (.slice A' (n + m) c') w' ∧ d.Own S w' base e (.slice A' (n + m) c') (n + m) (xs ++ ys) ∧ w.grownBy w' v.ownBlock ∧
      ((Value.slice A' (n + m) c').ownBlock = v.ownBlock ∨ (Value.slice A' (n + m) c').ownBlock = some w.heap.size) := by
    intro v' w' news h1 h2 h3 h4 h5
    obtain ⟨A', c', rfl⟩ := own_slice h2
    have hm : ∀ k, S k → k < w.heap.size → w'.heap[k]? = w.heap[k]? := fun k hk hlt => h3.block k hlt (hS k hk)
    refine ⟨A', c', w', h1, ⟨by rw [List.length_append, hl, hr.1], cells ++ news, h2, fun i x hx => ?_⟩, h3, h4⟩
    have hcl : cells.length = n * d.sz := how.1
    rcases Nat.lt_or_ge i n with hin | hin
    · rw [List.getElem?_append_left (by omega)] at hx
      obtain ⟨cs, hK, hcs⟩ := hcells i x hx
      refine ⟨cs, d.move hm hK, fun j u hu => ?_⟩
      have := hcs j u hu
      rw [List.getElem?_append_left (List.getElem?_eq_some_iff.1 this).1]
      exact this
    · rw [List.getElem?_append_right (by omega), hl] at hx
      obtain ⟨cs, hK, hcs⟩ := h5 _ x hx
      refine ⟨cs, d.move hm hK, fun j u hu => ?_⟩
      have := hcs j u hu
      have hmul : i * d.sz = n * d.sz + (i - n) * d.sz := by rw [← Nat.add_mul]; congr 1; omega
      rw [hmul, Nat.add_assoc, List.getElem?_append_right (by omega), hcl, Nat.add_sub_cancel_left]
      exact this
  rcases Nat.eq_zero_or_pos m with h0 | h0
  · subst h0
    have hn : ys = [] := List.eq_nil_of_length_eq_zero hr.1
    subst hn
    rcases A with _ | ad
    · refine fin v w [] ?_ (by simpa using how) (World.grownBy.refl w _) (.inl rfl) (fun i x h => by simp at h)
      rcases how.2 with ⟨rfl, rfl⟩ | ⟨g, cap, cur, rfl, _, _, hnc, _⟩
      · simp [Builtin.append_, run_underlying ht, sizeOf, typeInfo, hi, Builtin.lenOf, Builtin.firstCells]
      · simp [Builtin.append_, run_underlying ht, sizeOf, typeInfo, hi, Builtin.lenOf, Builtin.firstCells, hnc, storeCells]
    · obtain ⟨v', w', hrun, h2, h3, _, h5⟩ := run_append_own_at (P := P) w base t ty e i z d.sz bytes ht hi hz hsize hby hzs hsz v n cells how ad 0 c [] (by simp) (fun j u hu => by simp at hu) (fun u hu => by cases hu) h63 hbytes hbase
      exact fin v' w' [] hrun h2 h3 h5 (fun i x h => by simp at h)
  · obtain ⟨b, o, rfl, hc⟩ := hr.2 h0
    obtain ⟨news, hnl, hn1, hn2, hn3⟩ := cells_of d S w b ys o hc
    obtain ⟨v', w', hrun, h2, h3, _, h5⟩ := run_append_own_at (P := P) w base t ty e i z d.sz bytes ht hi hz hsize hby hzs hsz v n cells how ⟨b, o, none⟩ m c news (by rw [hnl, hr.1])
      (fun j u hu => by rw [add_plain']; exact hn3 j u hu) hn1 h63 hbytes hbase
    exact fin v' w' news hrun h2 h3 h5 hn2
theorem wp_appK' {o : Oper} {a : Act} {K : Act → World → Prop} {Q : Exit → Act → World → Prop} (s x : Operand) (t : TypeId)
    (ho : o.op = .call { callee := .builtin .append, args := #[s, x], argTypes := #[t, t] })
    (S : Nat → Prop) (base : Nat) (e : TypeId) (z : Value) (bytes : Nat) (ht : P.underlying t = some (.slice e)) (hinfo : (P.info? e).map (fun i => (i.zero, i.size, i.bytes)) = some (some z, d.sz, bytes)) (hzs : z.cells.size = d.sz) (hsz : 0 < d.sz)
    (v : Value) (n : Nat) (xs : List α) (hs : a.eval s = v) (hown : d.Own S w base e v n xs) (hS : ∀ k, S k → some k ≠ v.ownBlock)
    (A : Option Addr) (m c : Nat) (ys : List α) (hx : a.eval x = .slice A m c) (hr : d.Src S w A m ys)
    (N : Nat) (zs : List α) (hN : n + m = N) (hzz : xs ++ ys = zs)
    (h63 : N ≤ maxLen) (hbytes : N * bytes ≤ 140737488355328) (hbase : base ≤ w.heap.size)
    (h : ∀ A' c' w', d.Own S w' base e (.slice A' N c') N zs → w.grownBy w' v.ownBlock → ((Value.slice A' N c').ownBlock = v.ownBlock ∨ (Value.slice A' N c').ownBlock = some w.heap.size) → K (a.put o.dst (.slice A' N c')) w') : o.wp P a w K Q := by
  subst hN
  subst hzz
  obtain ⟨A', c', w', hrun, h2, h3, h4⟩ := run_appK' (P := P) d w S base t o.type e z bytes ht hinfo hzs hsz v n xs hown hS A m c ys hr h63 hbytes hbase
  unfold Oper.wp execOp
  simp only [ho, resolve, invoke, builtin, Sem.run_bind, Sem.run_pure, Result.andThen_ok, List.map_toArray, List.map_cons, List.map_nil, hs, hx, hrun]
  exact h A' c' w' h2 h3 h4
theorem wpList_appK' {ops : Array Oper} {rest : List Oper} {o : Oper} {a : Act} {Q : Exit → Act → World → Prop} (hgd : o.guard = none) (s x : Operand) (t : TypeId)
    (ho : o.op = .call { callee := .builtin .append, args := #[s, x], argTypes := #[t, t] })
    (S : Nat → Prop) (base : Nat) (e : TypeId) (z : Value) (bytes : Nat) (ht : P.underlying t = some (.slice e)) (hinfo : (P.info? e).map (fun i => (i.zero, i.size, i.bytes)) = some (some z, d.sz, bytes)) (hzs : z.cells.size = d.sz) (hsz : 0 < d.sz)
    (v : Value) (n : Nat) (xs : List α) (hs : a.eval s = v) (hown : d.Own S w base e v n xs) (hS : ∀ k, S k → some k ≠ v.ownBlock)
    (A : Option Addr) (m c : Nat) (ys : List α) (hx : a.eval x = .slice A m c) (hr : d.Src S w A m ys)
    (N : Nat) (zs : List α) (hN : n + m = N) (hzz : xs ++ ys = zs)
    (h63 : N ≤ maxLen) (hbytes : N * bytes ≤ 140737488355328) (hbase : base ≤ w.heap.size)
    (h : ∀ A' c' w', d.Own S w' base e (.slice A' N c') N zs → w.grownBy w' v.ownBlock → ((Value.slice A' N c').ownBlock = v.ownBlock ∨ (Value.slice A' N c').ownBlock = some w.heap.size) → wpList P ops Q rest (a.put o.dst (.slice A' N c')) w') : wpList P ops Q (o :: rest) a w :=
  wpList_plain hgd fun _ hK => wp_appK' d w s x t ho S base e z bytes ht hinfo hzs hsz v n xs hs hown hS A m c ys hx hr N zs hN hzz h63 hbytes hbase fun A' c' w' h2 h3 h4 => hK _ _ (h A' c' w' h2 h3 h4)
theorem step_appK' {ops : Array Oper} {o : Oper} {a : Act} {K : Act → World → Prop} {Q : Exit → Act → World → Prop} {E : Prop} (hgd : o.guard = none) (s x : Operand) (t : TypeId)
    (ho : o.op = .call { callee := .builtin .append, args := #[s, x], argTypes := #[t, t] })
    (S : Nat → Prop) (base : Nat) (e : TypeId) (z : Value) (bytes : Nat) (ht : P.underlying t = some (.slice e)) (hinfo : (P.info? e).map (fun i => (i.zero, i.size, i.bytes)) = some (some z, d.sz, bytes)) (hzs : z.cells.size = d.sz) (hsz : 0 < d.sz)
    (v : Value) (n : Nat) (xs : List α) (hs : a.eval s = v) (hown : d.Own S w base e v n xs) (hS : ∀ k, S k → some k ≠ v.ownBlock)
    (A : Option Addr) (m c : Nat) (ys : List α) (hx : a.eval x = .slice A m c) (hr : d.Src S w A m ys)
    (N : Nat) (zs : List α) (hN : n + m = N) (hzz : xs ++ ys = zs)
    (h63 : N ≤ maxLen) (hbytes : N * bytes ≤ 140737488355328) (hbase : base ≤ w.heap.size)
    (h : ∀ A' c' w', d.Own S w' base e (.slice A' N c') N zs → w.grownBy w' v.ownBlock → ((Value.slice A' N c').ownBlock = v.ownBlock ∨ (Value.slice A' N c').ownBlock = some w.heap.size) → K (a.put o.dst (.slice A' N c')) w') :
    if Region.wanted o (yielded ops a.tmps) = true then Oper.wp P o a w K Q else E := by
  have hw : Region.wanted o (yielded ops a.tmps) = true := by simp [Region.wanted, hgd]
  rw [if_pos hw]
  exact wp_appK' d w s x t ho S base e z bytes ht hinfo hzs hsz v n xs hs hown hS A m c ys hx hr N zs hN hzz h63 hbytes hbase h
end
theorem Own.grownS {α : Type} {d : RK α} {S : Nat → Prop} {w w' : World} {base n : Nat} {e : TypeId} {v : Value} {xs : List α} {row : Option Nat} (h : d.Own S w base e v n xs) (hg : w.grownBy w' row) (hne : ∀ k, row = some k → k < base ∧ ¬ S k) : d.Own S w' base e v n xs := by
  obtain ⟨h1, cells, h2, h3⟩ := h
  refine ⟨h1, cells, ?_, fun i x hx => ?_⟩
  · refine ⟨h2.1, ?_⟩
    rcases h2.2 with ⟨hv, h0⟩ | ⟨g, cap, cur, hv, hb, hgg, hrest⟩
    · exact .inl ⟨hv, h0⟩
    · refine .inr ⟨g, cap, cur, hv, hb, ?_, hrest⟩
      exact (hg.block g (heap_lt hgg) (fun e => by have := (hne g e.symm).1; omega)).trans hgg
  · obtain ⟨cs, hK, hcs⟩ := h3 i x hx
    exact ⟨cs, d.move (fun k hk hlt => hg.block k hlt (fun e => (hne k e.symm).2 hk)) hK, hcs⟩
end RK
end Go.Proofs.Ytjlkakggmfmfiaa
