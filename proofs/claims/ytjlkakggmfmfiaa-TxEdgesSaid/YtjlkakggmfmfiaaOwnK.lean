/- Rows of the call's own whose elements are of a kind (digests, structs ..): what they hold, reading them, append onto them. -/
import Derived.Test.YtjlkakggmfmfiaaWords
import Derived.Test.YtjlkakggmfmfiaaAppN
import Derived.Test.YtjlkakggmfmfiaaKinds
import Derived.Maps.AppendAt
set_option linter.unusedVariables false
namespace Go.Proofs.Ytjlkakggmfmfiaa
open Go Go.RowKit
/-- A row of the call's own whose elements are xs, of kind d. -/
def RK.Own {α : Type} (d : RK α) (S : Nat → Prop) (w : World) (base : Nat) (e : TypeId) (v : Value) (n : Nat) (xs : List α) : Prop :=
  xs.length = n ∧ ∃ cells : List Value, w.ownsRow base e d.sz v n cells ∧ ∀ i x, xs[i]? = some x → ∃ cs, d.K S w x cs ∧ ∀ j u, cs[j]? = some u → cells[i * d.sz + j]? = some u
namespace RK
section
variable {α : Type} {d : RK α} {S : Nat → Prop} {w w' : World} {base n : Nat} {e : TypeId} {v : Value} {xs : List α}
theorem Own.nil (d : RK α) (S : Nat → Prop) (w : World) (base : Nat) (e : TypeId) : d.Own S w base e (.slice none 0 0) 0 [] := ⟨rfl, [], World.ownsRow_nil _ _ _ _, fun i x h => by simp at h⟩
theorem Own.len (h : d.Own S w base e v n xs) : xs.length = n := h.1
theorem Own.slice_ (h : d.Own S w base e v n xs) : ∃ A c, v = .slice A n c := by
  obtain ⟨_, cells, h2, _⟩ := h
  exact own_slice h2
theorem Own.lt (h : d.Own S w base e v n xs) : ∀ k, v.ownBlock = some k → base ≤ k ∧ k < w.heap.size := by
  obtain ⟨_, cells, h2, _⟩ := h
  exact h2.lt
theorem Own.max_ (h : d.Own S w base e v n xs) : n ≤ maxLen := by
  obtain ⟨_, cells, h2, _⟩ := h
  exact own_max h2
theorem Own.le_ {A : Option Addr} {c : Nat} (h : d.Own S w base e (.slice A n c) n xs) : n ≤ c ∧ c ≤ maxLen := by
  obtain ⟨_, cells, h2, _⟩ := h
  exact own_le h2
theorem Own.base_ {base' : Nat} (h : d.Own S w base e v n xs) (hb : base' ≤ base) : d.Own S w base' e v n xs := by
  obtain ⟨h1, cells, h2, h3⟩ := h
  exact ⟨h1, cells, own_mono h2 hb, h3⟩
theorem Own.below (h : d.Own S w base e v n xs) (hb : Below w.heap.size w w') : d.Own S w' base e v n xs := by
  obtain ⟨h1, cells, h2, h3⟩ := h
  refine ⟨h1, cells, own_below h2 hb, fun i x hx => ?_⟩
  obtain ⟨cs, hK, hcs⟩ := h3 i x hx
  exact ⟨cs, K_below hK hb, hcs⟩
theorem Own.alloc (h : d.Own S w base e v n xs) (o : Obj) : d.Own S (w.alloc o) base e v n xs := h.below ((Below.refl _ _).alloc (Nat.le_refl _) _)
/-- It reads as xs. -/
theorem Own.C_ {S' : Nat → Prop} {A : Option Addr} {c : Nat} (h : d.Own S w base e (.slice A n c) n xs) (hS : ∀ k, S k → S' k) (hA : ∀ b, (Value.slice A n c).ownBlock = some b → S' b) : d.C S' w A n xs := by
  obtain ⟨h1, cells, h2, h3⟩ := h
  refine ⟨h1, fun hn => ?_⟩
  obtain ⟨g, cap, hv, hbg, hlt⟩ := h2.form hn
  obtain rfl : A = some ⟨g, 0, none⟩ := by injection hv
  refine ⟨g, 0, rfl, hA g rfl, hlt, fun i x hx => ?_⟩
  obtain ⟨cs, hK, hcs⟩ := h3 i x hx
  refine ⟨cs, d.mono hS hK, fun j u hu => ?_⟩
  have := h2.cells (g := g) rfl _ u (hcs j u hu)
  rw [add_plain] at this
  rw [Nat.zero_add]
  exact this
end
/-- The cells of what a slice reads as. -/
theorem cells_of {α : Type} (d : RK α) (S : Nat → Prop) (w : World) (b : Nat) : ∀ (ys : List α) (o : Nat), (∀ i x, ys[i]? = some x → ∃ cs, d.K S w x cs ∧ ∀ j v, cs[j]? = some v → w.cell? ⟨b, o + i * d.sz + j, none⟩ = some v) →
    ∃ cells : List Value, cells.length = ys.length * d.sz ∧ (∀ u ∈ cells, u.oneCell' = true) ∧ (∀ i x, ys[i]? = some x → ∃ cs, d.K S w x cs ∧ ∀ j u, cs[j]? = some u → cells[i * d.sz + j]? = some u) ∧ ∀ j u, cells[j]? = some u → w.cell? ⟨b, o + j, none⟩ = some u
  | [], o, _ => ⟨[], by simp, (fun u hu => by cases hu), (fun i x h => by simp at h), (fun j u h => by simp at h)⟩
  | y :: ys, o, h => by
    obtain ⟨c0, hK0, hc0⟩ := h 0 y rfl
    obtain ⟨cells, hl, h1, h2, h3⟩ := cells_of d S w b ys (o + d.sz) (fun i x hx => by
      obtain ⟨cs, hK, hcs⟩ := h (i + 1) x (by simpa using hx)
      refine ⟨cs, hK, fun j v hv => ?_⟩
      rw [show o + d.sz + i * d.sz + j = o + (i + 1) * d.sz + j by rw [Nat.add_mul]; omega]
      exact hcs j v hv)
    have hl0 := d.len hK0
    refine ⟨c0 ++ cells, ?_, ?_, ?_, ?_⟩
    · rw [List.length_append, hl, hl0, List.length_cons, Nat.add_mul]; omega
    · intro u hu
      rcases List.mem_append.1 hu with hu | hu
      · exact d.one hK0 u hu
      · exact h1 u hu
    · intro i x hx
      rcases i with _ | i
      · obtain rfl : y = x := by simpa using hx
        refine ⟨c0, hK0, fun j u hu => ?_⟩
        have hj : j < c0.length := (List.getElem?_eq_some_iff.1 hu).1
        rw [Nat.zero_mul, Nat.zero_add, List.getElem?_append_left hj]
        exact hu
      · obtain ⟨cs, hK, hcs⟩ := h2 i x (by simpa using hx)
        refine ⟨cs, hK, fun j u hu => ?_⟩
        rw [show (i + 1) * d.sz + j = c0.length + (i * d.sz + j) by rw [hl0, Nat.add_mul]; omega, List.getElem?_append_right (by omega), Nat.add_sub_cancel_left]
        exact hcs j u hu
    · intro j u hu
      rcases Nat.lt_or_ge j c0.length with hj | hj
      · rw [List.getElem?_append_left hj] at hu
        have := hc0 j u hu
        rwa [Nat.zero_mul, Nat.add_zero] at this
      · rw [List.getElem?_append_right hj] at hu
        have := h3 _ u hu
        rwa [show o + d.sz + (j - c0.length) = o + j by omega] at this
section
variable {P : Program} {α : Type} (d : RK α) (w : World)
theorem run_appK (S : Nat → Prop) (base : Nat) (t ty e : TypeId) (z : Value) (bytes : Nat) (ht : P.underlying t = some (.slice e)) (hinfo : (P.info? e).map (fun i => (i.zero, i.size, i.bytes)) = some (some z, d.sz, bytes)) (hzs : z.cells.size = d.sz) (hsz : 0 < d.sz)
    (v : Value) (n : Nat) (xs : List α) (hown : d.Own S w base e v n xs) (hS : ∀ k, S k → some k ≠ v.ownBlock)
    (A : Option Addr) (m c : Nat) (ys : List α) (S2 : Nat → Prop) (hr : d.C S2 w A m ys) (hSS : ∀ x cs, d.K S2 w x cs → d.K S w x cs)
    (h63 : n + m ≤ maxLen) (hbytes : (n + m) * bytes ≤ 140737488355328) (hbase : base ≤ w.heap.size) :
    ∃ A' c' w', (Builtin.append_ #[t, t] ty #[v, .slice A m c]).run P w = .ok (.slice A' (n + m) c') w' ∧ d.Own S w' base e (.slice A' (n + m) c') (n + m) (xs ++ ys) ∧ w.grownBy w' v.ownBlock ∧
      ((Value.slice A' (n + m) c').ownBlock = v.ownBlock ∨ (Value.slice A' (n + m) c').ownBlock = some w.heap.size) := by
  obtain ⟨hl, cells, how, hcells⟩ := hown
  obtain ⟨i, hi, hz, hsize, hby⟩ : ∃ i, P.info? e = some i ∧ i.zero = some z ∧ i.size = d.sz ∧ i.bytes = bytes := by
    cases h : P.info? e with
    | none => rw [h] at hinfo; cases hinfo
    | some i => rw [h] at hinfo; simp only [Option.map_some, Option.some.injEq, Prod.mk.injEq] at hinfo; exact ⟨i, rfl, hinfo.1, hinfo.2.1, hinfo.2.2⟩
  have fin : ∀ v' w' (news : List Value), (Builtin.append_ #[t, t] ty #[v, .slice A m c]).run P w = .ok v' w' → w'.ownsRow base e d.sz v' (n + m) (cells ++ news) → w.grownBy w' v.ownBlock → (v'.ownBlock = v.ownBlock ∨ v'.ownBlock = some w.heap.size) →
      (∀ i x, ys[i]? = some x → ∃ cs, d.K S w x cs ∧ ∀ j u, cs[j]? = some u → news[i * d.sz + j]? = some u) →
      ∃ A' c' w', (Builtin.append_ #[t, t] ty #[v, .slice A m c]).run P w = .ok (.slice A' (n + m) c') w' ∧ d.Own S w' base e (.slice A' (n + m) c') (n + m) (xs ++ ys) ∧ w.grownBy w' v.ownBlock ∧
      ((Value.slice A' (n + m) c').ownBlock = v.ownBlock ∨ (Value.slice A' (n + m) c').ownBlock = some w.heap.size) := by
    intro v' w' news h1 h2 h3 h4 h5
    obtain ⟨A', c', rfl⟩ := own_slice h2
    have hm : ∀ k, S k → k < w.heap.size → w'.heap[k]? = w.heap[k]? := fun k hk hlt => h3.block k hlt (hS k hk)
    refine ⟨A', c', w', h1, ⟨by rw [List.length_append, hl, hr.1], cells ++ news, h2, fun i x hx => ?_⟩, h3, h4⟩
    have hcl : cells.length = n * d.sz := how.1
    rcases Nat.lt_or_ge i n with hin | hin
    · rw [List.getElem?_append_left (by omega)] at hx
      obtain ⟨cs, hK, hcs⟩ := hcells i x hx
      refine ⟨cs, d.move hm hK, fun j u hu => ?_⟩
      have := hcs j u hu
      rw [List.getElem?_append_left (List.getElem?_eq_some_iff.1 this).1]
      exact this
    · rw [List.getElem?_append_right (by omega), hl] at hx
      obtain ⟨cs, hK, hcs⟩ := h5 _ x hx
      refine ⟨cs, d.move hm hK, fun j u hu => ?_⟩
      have := hcs j u hu
      have hmul : i * d.sz = n * d.sz + (i - n) * d.sz := by rw [← Nat.add_mul]; congr 1; omega
      rw [hmul, Nat.add_assoc, List.getElem?_append_right (by omega), hcl, Nat.add_sub_cancel_left]
      exact this
  rcases Nat.eq_zero_or_pos m with h0 | h0
  · subst h0
    have hn : ys = [] := List.eq_nil_of_length_eq_zero hr.1
    subst hn
    rcases A with _ | ad
    · refine fin v w [] ?_ (by simpa using how) (World.grownBy.refl w _) (.inl rfl) (fun i x h => by simp at h)
      rcases how.2 with ⟨rfl, rfl⟩ | ⟨g, cap, cur, rfl, _, _, hnc, _⟩
      · simp [Builtin.append_, run_underlying ht, sizeOf, typeInfo, hi, Builtin.lenOf, Builtin.firstCells]
      · simp [Builtin.append_, run_underlying ht, sizeOf, typeInfo, hi, Builtin.lenOf, Builtin.firstCells, hnc, storeCells]
    · obtain ⟨v', w', hrun, h2, h3, _, h5⟩ := run_append_own_at (P := P) w base t ty e i z d.sz bytes ht hi hz hsize hby hzs hsz v n cells how ad 0 c [] (by simp) (fun j u hu => by simp at hu) (fun u hu => by cases hu) h63 hbytes hbase
      exact fin v' w' [] hrun h2 h3 h5 (fun i x h => by simp at h)
  · obtain ⟨b, o, rfl, _, _, hc⟩ := hr.2 h0
    obtain ⟨news, hnl, hn1, hn2, hn3⟩ := cells_of d S w b ys o (fun i x hx => by
      obtain ⟨cs, hK, hcs⟩ := hc i x hx
      exact ⟨cs, hSS x cs hK, hcs⟩)
    obtain ⟨v', w', hrun, h2, h3, _, h5⟩ := run_append_own_at (P := P) w base t ty e i z d.sz bytes ht hi hz hsize hby hzs hsz v n cells how ⟨b, o, none⟩ m c news (by rw [hnl, hr.1])
      (fun j u hu => by rw [add_plain']; exact hn3 j u hu) hn1 h63 hbytes hbase
    exact fin v' w' news hrun h2 h3 h5 hn2
theorem wp_appK {o : Oper} {a : Act} {K : Act → World → Prop} {Q : Exit → Act → World → Prop} (s x : Operand) (t : TypeId)
    (ho : o.op = .call { callee := .builtin .append, args := #[s, x], argTypes := #[t, t] })
    (S : Nat → Prop) (base : Nat) (e : TypeId) (z : Value) (bytes : Nat) (ht : P.underlying t = some (.slice e)) (hinfo : (P.info? e).map (fun i => (i.zero, i.size, i.bytes)) = some (some z, d.sz, bytes)) (hzs : z.cells.size = d.sz) (hsz : 0 < d.sz)
    (v : Value) (n : Nat) (xs : List α) (hs : a.eval s = v) (hown : d.Own S w base e v n xs) (hS : ∀ k, S k → some k ≠ v.ownBlock)
    (A : Option Addr) (m c : Nat) (ys : List α) (hx : a.eval x = .slice A m c) (S2 : Nat → Prop) (hr : d.C S2 w A m ys) (hSS : ∀ x cs, d.K S2 w x cs → d.K S w x cs)
    (N : Nat) (zs : List α) (hN : n + m = N) (hzz : xs ++ ys = zs)
    (h63 : N ≤ maxLen) (hbytes : N * bytes ≤ 140737488355328) (hbase : base ≤ w.heap.size)
    (h : ∀ A' c' w', d.Own S w' base e (.slice A' N c') N zs → w.grownBy w' v.ownBlock → ((Value.slice A' N c').ownBlock = v.ownBlock ∨ (Value.slice A' N c').ownBlock = some w.heap.size) → K (a.put o.dst (.slice A' N c')) w') : o.wp P a w K Q := by
  subst hN
  subst hzz
  obtain ⟨A', c', w', hrun, h2, h3, h4⟩ := run_appK (P := P) d w S base t o.type e z bytes ht hinfo hzs hsz v n xs hown hS A m c ys S2 hr hSS h63 hbytes hbase
  unfold Oper.wp execOp
  simp only [ho, resolve, invoke, builtin, Sem.run_bind, Sem.run_pure, Result.andThen_ok, List.map_toArray, List.map_cons, List.map_nil, hs, hx, hrun]
  exact h A' c' w' h2 h3 h4
theorem wpList_appK {ops : Array Oper} {rest : List Oper} {o : Oper} {a : Act} {Q : Exit → Act → World → Prop} (hgd : o.guard = none) (s x : Operand) (t : TypeId)
    (ho : o.op = .call { callee := .builtin .append, args := #[s, x], argTypes := #[t, t] })
    (S : Nat → Prop) (base : Nat) (e : TypeId) (z : Value) (bytes : Nat) (ht : P.underlying t = some (.slice e)) (hinfo : (P.info? e).map (fun i => (i.zero, i.size, i.bytes)) = some (some z, d.sz, bytes)) (hzs : z.cells.size = d.sz) (hsz : 0 < d.sz)
    (v : Value) (n : Nat) (xs : List α) (hs : a.eval s = v) (hown : d.Own S w base e v n xs) (hS : ∀ k, S k → some k ≠ v.ownBlock)
    (A : Option Addr) (m c : Nat) (ys : List α) (hx : a.eval x = .slice A m c) (S2 : Nat → Prop) (hr : d.C S2 w A m ys) (hSS : ∀ x cs, d.K S2 w x cs → d.K S w x cs)
    (N : Nat) (zs : List α) (hN : n + m = N) (hzz : xs ++ ys = zs)
    (h63 : N ≤ maxLen) (hbytes : N * bytes ≤ 140737488355328) (hbase : base ≤ w.heap.size)
    (h : ∀ A' c' w', d.Own S w' base e (.slice A' N c') N zs → w.grownBy w' v.ownBlock → ((Value.slice A' N c').ownBlock = v.ownBlock ∨ (Value.slice A' N c').ownBlock = some w.heap.size) → wpList P ops Q rest (a.put o.dst (.slice A' N c')) w') : wpList P ops Q (o :: rest) a w :=
  wpList_plain hgd fun _ hK => wp_appK d w s x t ho S base e z bytes ht hinfo hzs hsz v n xs hs hown hS A m c ys hx S2 hr hSS N zs hN hzz h63 hbytes hbase fun A' c' w' h2 h3 h4 => hK _ _ (h A' c' w' h2 h3 h4)
theorem step_appK {ops : Array Oper} {o : Oper} {a : Act} {K : Act → World → Prop} {Q : Exit → Act → World → Prop} {E : Prop} (hgd : o.guard = none) (s x : Operand) (t : TypeId)
    (ho : o.op = .call { callee := .builtin .append, args := #[s, x], argTypes := #[t, t] })
    (S : Nat → Prop) (base : Nat) (e : TypeId) (z : Value) (bytes : Nat) (ht : P.underlying t = some (.slice e)) (hinfo : (P.info? e).map (fun i => (i.zero, i.size, i.bytes)) = some (some z, d.sz, bytes)) (hzs : z.cells.size = d.sz) (hsz : 0 < d.sz)
    (v : Value) (n : Nat) (xs : List α) (hs : a.eval s = v) (hown : d.Own S w base e v n xs) (hS : ∀ k, S k → some k ≠ v.ownBlock)
    (A : Option Addr) (m c : Nat) (ys : List α) (hx : a.eval x = .slice A m c) (S2 : Nat → Prop) (hr : d.C S2 w A m ys) (hSS : ∀ x cs, d.K S2 w x cs → d.K S w x cs)
    (N : Nat) (zs : List α) (hN : n + m = N) (hzz : xs ++ ys = zs)
    (h63 : N ≤ maxLen) (hbytes : N * bytes ≤ 140737488355328) (hbase : base ≤ w.heap.size)
    (h : ∀ A' c' w', d.Own S w' base e (.slice A' N c') N zs → w.grownBy w' v.ownBlock → ((Value.slice A' N c').ownBlock = v.ownBlock ∨ (Value.slice A' N c').ownBlock = some w.heap.size) → K (a.put o.dst (.slice A' N c')) w') :
    if Region.wanted o (yielded ops a.tmps) = true then Oper.wp P o a w K Q else E := by
  have hw : Region.wanted o (yielded ops a.tmps) = true := by simp [Region.wanted, hgd]
  rw [if_pos hw]
  exact wp_appK d w s x t ho S base e z bytes ht hinfo hzs hsz v n xs hs hown hS A m c ys hx S2 hr hSS N zs hN hzz h63 hbytes hbase h
end
end RK
end Go.Proofs.Ytjlkakggmfmfiaa
