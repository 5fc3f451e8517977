/- Further laws on any program: a row of zeros that is made. -/
import Derived.Test.YtjlkakggmfmfiaaMore
import Derived.Laws.OwnMore
import Derived.Laws.MakeOwn
set_option linter.unusedVariables false
namespace Go.Proofs.Ytjlkakggmfmfiaa
open Go Go.RowKit
section
variable {P : Program}
theorem make_nums (w : World) (t e : TypeId) (k : IntKind) (bytes : Nat) (ht : P.underlying t = some (.slice e)) (hinfo : (P.info? e).map (fun i => (i.zero, i.size, i.bytes)) = some (some (.int k 0), 1, bytes))
    (n : Nat) (hb : bytes * n ≤ 281474976710656) (h63 : n ≤ maxLen) :
    (Instr.makeSlice t (.int .i64 n) (.int .i64 n)).run P w = .ok (.slice (some ⟨w.heap.size, 0, none⟩) n n) (w.alloc (.cells (nums k (List.replicate n 0)).toArray e)) := by
  obtain ⟨i, hi, hz, hsize, hby⟩ : ∃ i, P.info? e = some i ∧ i.zero = some (.int k 0) ∧ i.size = 1 ∧ i.bytes = bytes := by
    cases h : P.info? e with
    | none => rw [h] at hinfo; cases hinfo
    | some i => rw [h] at hinfo; simp only [Option.map_some, Option.some.injEq, Prod.mk.injEq] at hinfo; exact ⟨i, rfl, hinfo.1, hinfo.2.1, hinfo.2.2⟩
  subst hby
  have hb' : (i.bytes : Int) * (n : Int) ≤ 281474976710656 := by
    have h : ((i.bytes * n : Nat) : Int) ≤ 281474976710656 := by omega
    rwa [Int.natCast_mul] at h
  have h63' : (n : Int) ≤ 9223372036854775807 := by unfold maxLen at h63; omega
  have hr := run_make (P := P) w t e i (.int k 0) ht hi hz .i64 .i64 n n (by omega) (Int.le_refl _) hb' h63'
  simp only [Int.toNat_natCast, hsize, Nat.mul_one] at hr
  have hm : madeCells (Value.int k 0).cells n = (nums k (List.replicate n 0)).toArray := by
    apply Array.ext'
    rw [show (Value.int k 0).cells = #[.int k 0] from rfl, toList_madeCells_one]
    simp [nums]
  rw [hm] at hr
  exact hr
end
theorem own_cell' {w : World} {base n c g : Nat} {e : TypeId} {k : IntKind} {xs : List Int} (h : w.ownsRow base e 1 (.slice (some ⟨g, 0, none⟩) n c) n (nums k xs)) (i : Nat) (hi : i < n) : w.cell? ⟨g, i, none⟩ = some (.int k (rd xs i)) := by
  have hl : xs.length = n := by have := h.1; rwa [nums_length, Nat.mul_one] at this
  have := h.cells (g := g) rfl i _ (nums_get k xs i (by omega))
  rwa [add_plain] at this
section
variable {P : Program} (w : World)
/-- append of some values onto a row of the call's own: what the row held still stands where it stood. -/
theorem run_app1 (base : Nat) (t ty e : TypeId) (z : Value) (bytes : Nat) (ht : P.underlying t = some (.slice e)) (hinfo : (P.info? e).map (fun i => (i.zero, i.size, i.bytes)) = some (some z, 1, bytes)) (hzs : z.cells.size = 1)
    (v : Value) (n : Nat) (xs : List Value) (hown : w.ownsRow base e 1 v n xs)
    (b o m c : Nat) (news : List Value) (hr : Rd w (some ⟨b, o, none⟩) m news) (hm : 1 ≤ m) (h1 : ∀ u ∈ news, u.oneCell' = true)
    (h63 : n + m ≤ maxLen) (hbytes : (n + m) * bytes ≤ 140737488355328) (hbase : base ≤ w.heap.size) :
    ∃ A' c' w', (Builtin.append_ #[t, t] ty #[v, .slice (some ⟨b, o, none⟩) m c]).run P w = .ok (.slice A' (n + m) c') w' ∧ w'.ownsRow base e 1 (.slice A' (n + m) c') (n + m) (xs ++ news) ∧ w.grownBy w' v.ownBlock ∧
      ((Value.slice A' (n + m) c').ownBlock = v.ownBlock ∨ (Value.slice A' (n + m) c').ownBlock = some w.heap.size) ∧ (∀ g i u, v.ownBlock = some g → xs[i]? = some u → w'.cell? ⟨g, i, none⟩ = some u) := by
  obtain ⟨A', c', w', hrun, hown', hgrow, hat⟩ := run_app (P := P) w base t ty e z bytes ht hinfo hzs v n xs hown (some ⟨b, o, none⟩) m c news hr h1 h63 hbytes hbase
  refine ⟨A', c', w', hrun, hown', hgrow, hat, fun g i u hg hu => ?_⟩
  obtain ⟨inf, hi, hz, hsize, hby⟩ : ∃ i, P.info? e = some i ∧ i.zero = some z ∧ i.size = 1 ∧ i.bytes = bytes := by
    cases h : P.info? e with
    | none => rw [h] at hinfo; cases hinfo
    | some i => rw [h] at hinfo; simp only [Option.map_some, Option.some.injEq, Prod.mk.injEq] at hinfo; exact ⟨i, rfl, hinfo.1, hinfo.2.1, hinfo.2.2⟩
  have hil : i < xs.length := (List.getElem?_eq_some_iff.1 hu).1
  have hcell : w.cell? ⟨g, i, none⟩ = some u := by
    have := hown.cells hg i u hu
    rwa [add_plain] at this
  by_cases hsame : (Value.slice A' (n + m) c').ownBlock = some g
  · have := hown'.cells hsame i u (by rw [List.getElem?_append_left hil]; exact hu)
    rwa [add_plain] at this
  · rcases hown.2 with ⟨rfl, _⟩ | ⟨g', cap, cur, rfl, hbg, hgg, hnc, hcm, hcs, htake⟩
    · cases hg
    · obtain rfl : g' = g := by simpa [Value.ownBlock] using hg
      have hnews : ∀ j v, news[j]? = some v → w.cell? ((⟨b, o, none⟩ : Addr).add j) = some v := by
        obtain ⟨b', o', e1, hc⟩ := hr.2 (by omega)
        injection e1 with e1
        injection e1 with e2 e3
        subst e2 e3
        intro j v hv
        rw [add_plain']
        exact hc j v hv
      have hnl : news.length = m * inf.size := by rw [hsize, Nat.mul_one]; exact hr.1
      by_cases hroom : n + m ≤ cap
      · have hxl : xs.length = n := by have := hown.1; rwa [Nat.mul_one] at this
        have hfit : n * inf.size + news.length ≤ cur.size := by rw [hnl, hcs, hsize]; omega
        have hr2 := run_append_room (P := P) w t ty e inf ht hi g' n cap cur hgg ⟨b, o, none⟩ m c news hnl hnews h1 hroom hfit
        rw [hrun] at hr2
        injection hr2 with e1 _
        rw [e1] at hsame
        exact absurd rfl hsame
      · have holds : ∀ j u, xs[j]? = some u → w.cell? ((⟨g', 0, none⟩ : Addr).add j) = some u := hown.cells (g := g') rfl
        have hsmall : n + m ≤ 9223372036854775807 := by simp only [maxLen] at h63; omega
        have hr2 := run_append_grow (P := P) w t ty e inf z ht hi hz ⟨g', 0, none⟩ n cap xs (by rw [hsize]; exact hown.1) holds ⟨b, o, none⟩ m c news hnl hnews (by omega) (by omega) (growslice_fits (by omega) (by rw [hby]; exact hbytes))
        rw [hrun] at hr2
        injection hr2 with _ e2
        rw [e2]
        exact cell_below ((Below.refl w.drew.heap.size w.drew).alloc (Nat.le_refl _) _) (show w.drew.cell? ⟨g', i, none⟩ = some u from hcell)
theorem step_app1 {ops : Array Oper} {o : Oper} {a : Act} {K : Act → World → Prop} {Q : Exit → Act → World → Prop} {E : Prop} (hgd : o.guard = none) (s x : Operand) (t : TypeId)
    (ho : o.op = .call { callee := .builtin .append, args := #[s, x], argTypes := #[t, t] })
    (base : Nat) (e : TypeId) (z : Value) (bytes : Nat) (ht : P.underlying t = some (.slice e)) (hinfo : (P.info? e).map (fun i => (i.zero, i.size, i.bytes)) = some (some z, 1, bytes)) (hzs : z.cells.size = 1)
    (v : Value) (n : Nat) (xs : List Value) (hs : a.eval s = v) (hown : w.ownsRow base e 1 v n xs)
    (b off m c : Nat) (news : List Value) (hx : a.eval x = .slice (some ⟨b, off, none⟩) m c) (hr : Rd w (some ⟨b, off, none⟩) m news) (hm : 1 ≤ m) (h1 : ∀ u ∈ news, u.oneCell' = true)
    (h63 : n + m ≤ maxLen) (hbytes : (n + m) * bytes ≤ 140737488355328) (hbase : base ≤ w.heap.size)
    (h : ∀ A' c' w', w'.ownsRow base e 1 (.slice A' (n + m) c') (n + m) (xs ++ news) → w.grownBy w' v.ownBlock → ((Value.slice A' (n + m) c').ownBlock = v.ownBlock ∨ (Value.slice A' (n + m) c').ownBlock = some w.heap.size) →
      (∀ g i u, v.ownBlock = some g → xs[i]? = some u → w'.cell? ⟨g, i, none⟩ = some u) → K (a.put o.dst (.slice A' (n + m) c')) w') :
    if Region.wanted o (yielded ops a.tmps) = true then Oper.wp P o a w K Q else E := by
  have hw : Region.wanted o (yielded ops a.tmps) = true := by simp [Region.wanted, hgd]
  rw [if_pos hw]
  obtain ⟨A', c', w', hrun, h2, h3, h4, h5⟩ := run_app1 (P := P) w base t o.type e z bytes ht hinfo hzs v n xs hown b off m c news hr hm h1 h63 hbytes hbase
  unfold Oper.wp execOp
  simp only [ho, resolve, invoke, builtin, Sem.run_bind, Sem.run_pure, Result.andThen_ok, List.map_toArray, List.map_cons, List.map_nil, hs, hx, hrun]
  exact h A' c' w' h2 h3 h4 h5
end
end Go.Proofs.Ytjlkakggmfmfiaa
