/- Words and laws on any program: rows of whole numbers, whole blocks, appends, arrays stored whole, strings. -/
import Derived.WalkKit
import Derived.WalkSpells
import Derived.Deep.AppendLies
import Derived.Deep.Draws
import Derived.Deep.WholeRow
import Derived.Deep.MidRow
import Derived.Maps.AppendAt
import Derived.Laws.CopyOwn
import Derived.Laws.BitsAllLaws
import Derived.Laws.BitsLemmas
import Derived.Lib.Hide
import Derived.Deep.QuietTactic
set_option linter.unusedVariables false
namespace Go.Proofs.Ytjlkakggmfmfiaa
open Go Go.RowKit

/-! ### numbers and lists -/
def rd (xs : List Int) (i : Nat) : Int := xs.getD i 0
def nums (k : IntKind) (xs : List Int) : List Value := xs.map fun x => .int k x
theorem nums_length (k : IntKind) (xs : List Int) : (nums k xs).length = xs.length := by simp [nums]
theorem nums_append (k : IntKind) (xs ys : List Int) : nums k (xs ++ ys) = nums k xs ++ nums k ys := by simp [nums]
theorem nums_take (k : IntKind) (xs : List Int) (n : Nat) : (nums k xs).take n = nums k (xs.take n) := by simp [nums, List.map_take]
theorem nums_drop (k : IntKind) (xs : List Int) (n : Nat) : (nums k xs).drop n = nums k (xs.drop n) := by simp [nums, List.map_drop]
theorem nums_get (k : IntKind) (xs : List Int) (i : Nat) (h : i < xs.length) : (nums k xs)[i]? = some (.int k (rd xs i)) := by
  simp [nums, rd, List.getD_eq_getElem?_getD, List.getElem?_eq_getElem h]
theorem nums_getA (k : IntKind) (xs : List Int) (i : Nat) (h : i < xs.length) : (nums k xs).toArray[i]? = some (.int k (rd xs i)) := by
  rw [List.getElem?_toArray]; exact nums_get k xs i h
theorem nums_set (k : IntKind) (xs : List Int) (i : Nat) (x : Int) : (nums k xs).set i (.int k x) = nums k (xs.set i x) := by simp [nums, List.map_set]
theorem nums_setA (k : IntKind) (xs : List Int) (i : Nat) (x : Int) : (nums k xs).toArray.setIfInBounds i (.int k x) = (nums k (xs.set i x)).toArray := by
  rw [← nums_set]; simp
theorem nums_size (k : IntKind) (xs : List Int) : (nums k xs).toArray.size = xs.length := by simp [nums]
theorem nums_one (k : IntKind) (xs : List Int) : ∀ u ∈ nums k xs, u.oneCell' = true := by
  intro u hu; simp only [nums, List.mem_map] at hu; obtain ⟨x, _, rfl⟩ := hu; rfl
theorem rd_append_left (xs ys : List Int) (i : Nat) (h : i < xs.length) : rd (xs ++ ys) i = rd xs i := by
  unfold rd; simp [List.getD_eq_getElem?_getD, List.getElem?_append_left h]
theorem rd_append_right (xs ys : List Int) (i : Nat) (h : xs.length ≤ i) : rd (xs ++ ys) i = rd ys (i - xs.length) := by
  unfold rd; simp [List.getD_eq_getElem?_getD, List.getElem?_append_right h]
theorem rd_drop (xs : List Int) (n i : Nat) : rd (xs.drop n) i = rd xs (n + i) := by
  unfold rd; simp [List.getD_eq_getElem?_getD]
theorem rd_take (xs : List Int) (n i : Nat) (h : i < n) : rd (xs.take n) i = rd xs i := by
  unfold rd; simp [List.getD_eq_getElem?_getD, h]
theorem rd_set_same (xs : List Int) (i : Nat) (x : Int) (h : i < xs.length) : rd (xs.set i x) i = x := by
  unfold rd; simp [List.getD_eq_getElem?_getD, h]
theorem rd_set_ne (xs : List Int) (i j : Nat) (x : Int) (h : i ≠ j) : rd (xs.set i x) j = rd xs j := by
  unfold rd; simp [List.getD_eq_getElem?_getD, List.getElem?_set_ne h]
theorem rd_ext (xs ys : List Int) (h : xs.length = ys.length) (hr : ∀ i, i < xs.length → rd xs i = rd ys i) : xs = ys := by
  apply List.ext_getElem h
  intro i h1 h2
  have := hr i h1
  unfold rd at this
  simpa [List.getD_eq_getElem?_getD, List.getElem?_eq_getElem h1, List.getElem?_eq_getElem h2] using this
theorem rd_mem (xs : List Int) (i : Nat) (h : i < xs.length) : rd xs i ∈ xs := by
  unfold rd; simp [List.getD_eq_getElem?_getD, List.getElem?_eq_getElem h]
theorem rd_beyond (xs : List Int) (i : Nat) (h : xs.length ≤ i) : rd xs i = 0 := by
  unfold rd; simp [List.getD_eq_getElem?_getD, List.getElem?_eq_none h]
/-- Every element is a byte. -/
def Bytes (xs : List Int) : Prop := ∀ x ∈ xs, 0 ≤ x ∧ x ≤ 255
theorem Bytes.rd {xs : List Int} (h : Bytes xs) (i : Nat) : 0 ≤ rd xs i ∧ rd xs i ≤ 255 := by
  rcases Nat.lt_or_ge i xs.length with hl | hl
  · exact h _ (rd_mem xs i hl)
  · rw [rd_beyond xs i hl]; omega
theorem Bytes.append {xs ys : List Int} (h : Bytes xs) (k : Bytes ys) : Bytes (xs ++ ys) := by
  intro x hx; rcases List.mem_append.1 hx with hx | hx
  · exact h x hx
  · exact k x hx
theorem Bytes.drop {xs : List Int} (h : Bytes xs) (n : Nat) : Bytes (xs.drop n) := fun x hx => h x (List.mem_of_mem_drop hx)
theorem Bytes.take {xs : List Int} (h : Bytes xs) (n : Nat) : Bytes (xs.take n) := fun x hx => h x (List.mem_of_mem_take hx)
theorem Bytes.nil : Bytes [] := fun x hx => by cases hx

/-! ### addresses -/
theorem add_plain (g j : Nat) : (⟨g, 0, none⟩ : Addr).add j = ⟨g, j, none⟩ := by unfold Addr.add; split <;> simp_all
theorem add_plain' (g o j : Nat) : (⟨g, o, none⟩ : Addr).add j = ⟨g, o + j, none⟩ := by unfold Addr.add; split <;> simp_all
theorem block_of_add (a : Addr) (n : Nat) : (a.add n).block = a.block := by unfold Addr.add; split <;> rfl
theorem add_of_add (a : Addr) (i j : Nat) : (a.add i).add j = a.add (i + j) := by
  unfold Addr.add
  by_cases hi : i = 0 <;> by_cases hj : j = 0 <;> simp [hi, hj, Nat.add_assoc]

/-! ### worlds -/
theorem below_drewN {B : Nat} {w W : World} (h : Below B w W) (n : Nat) : Below B w (W.drewN n) := ⟨h.os, h.tape, h.output, h.size, h.block⟩
theorem below_of_drewN {w W : World} (h : ∃ n, W = w.drewN n) (B : Nat) : Below B w W := by
  obtain ⟨n, rfl⟩ := h; exact below_drewN (Below.refl _ _) n
theorem below_then {B : Nat} {w w1 w2 : World} (h : Below B w w1) (hB : B ≤ w1.heap.size) (k : Below w1.heap.size w1 w2) : Below B w w2 :=
  h.trans (k.mono hB)
theorem grown_of_below {w w1 : World} (h : Below w.heap.size w w1) (row : Option Nat) : w.grownBy w1 row := ⟨h.os, h.tape, h.output, h.size, fun i hi _ => h.block i hi⟩
theorem cell_below {w w1 : World} (h : Below w.heap.size w w1) {a : Addr} {v : Value} (hc : w.cell? a = some v) : w1.cell? a = some v := (h.cell (World.block_lt_of_cell? w a hc)).trans hc
theorem heap_below {w w1 : World} (h : Below w.heap.size w w1) {g : Nat} {o : Obj} (hc : w.heap[g]? = some o) : w1.heap[g]? = some o := by
  rw [h.block g (Array.getElem?_eq_some_iff.1 hc).1]; exact hc
theorem heap_lt {w : World} {g : Nat} {o : Obj} (hc : w.heap[g]? = some o) : g < w.heap.size := (Array.getElem?_eq_some_iff.1 hc).1
theorem own_below {w w1 : World} {base : Nat} {e : TypeId} {size n : Nat} {v : Value} {xs : List Value} (h : w.ownsRow base e size v n xs) (hb : Below w.heap.size w w1) : w1.ownsRow base e size v n xs :=
  h.kept (grown_of_below hb none) (by cases v.ownBlock <;> simp)
theorem own_drewN {w : World} {base : Nat} {e : TypeId} {size n : Nat} {v : Value} {xs : List Value} (h : w.ownsRow base e size v n xs) (k : Nat) : (w.drewN k).ownsRow base e size v n xs := h
theorem own_slice {w : World} {base n : Nat} {e : TypeId} {size : Nat} {v : Value} {xs : List Value} (h : w.ownsRow base e size v n xs) : ∃ A c, v = .slice A n c := by
  rcases h.2 with ⟨rfl, rfl⟩ | ⟨g, cap, cur, rfl, _⟩
  · exact ⟨none, 0, rfl⟩
  · exact ⟨_, cap, rfl⟩
theorem own_base {w : World} {base : Nat} {e : TypeId} {size n : Nat} {v : Value} {xs : List Value} (h : w.ownsRow base e size v n xs) (k : Nat) (hk : v.ownBlock = some k) : base ≤ k := (h.lt k hk).1
theorem own_max {w : World} {base : Nat} {e : TypeId} {size n : Nat} {v : Value} {xs : List Value} (h : w.ownsRow base e size v n xs) : n ≤ maxLen := by
  rcases h.2 with ⟨_, rfl⟩ | ⟨g, cap, cur, _, _, _, h1, h2, _⟩
  · exact Nat.zero_le _
  · exact Nat.le_trans h1 h2
theorem own_mono {w : World} {base base' : Nat} {e : TypeId} {size n : Nat} {v : Value} {xs : List Value} (h : w.ownsRow base e size v n xs) (hb : base' ≤ base) : w.ownsRow base' e size v n xs := by
  refine ⟨h.1, ?_⟩
  rcases h.2 with h | ⟨g, cap, cur, hv, hg, r⟩
  · exact .inl h
  · exact .inr ⟨g, cap, cur, hv, Nat.le_trans hb hg, r⟩
theorem own_type_ne {w : World} {b b' : Nat} {e e' : TypeId} {s s' n n' : Nat} {v v' : Value} {xs xs' : List Value} (h : w.ownsRow b e s v n xs) (h' : w.ownsRow b' e' s' v' n' xs') (hne : e ≠ e') : v.ownBlock = none ∨ v.ownBlock ≠ v'.ownBlock := by
  rcases h.2 with ⟨rfl, _⟩ | ⟨g, cap, cur, rfl, _, hh, _⟩
  · exact .inl rfl
  · refine .inr fun hk => ?_
    rcases h'.2 with ⟨rfl, _⟩ | ⟨g', cap', cur', rfl, _, hh', _⟩
    · simp [Value.ownBlock] at hk
    · have : g = g' := by simpa [Value.ownBlock] using hk
      subst this
      rw [hh] at hh'
      injection hh' with hh'
      injection hh' with _ ht
      exact hne ht
theorem own_blk_ne {w : World} {base : Nat} {e t : TypeId} {size n g : Nat} {v : Value} {xs : List Value} {cs : Array Value} {fz : Nat × Nat} (h : w.ownsRow base e size v n xs) (hg : w.heap[g]? = some (.cells cs t fz)) (hne : e ≠ t) : some g ≠ v.ownBlock := by
  intro hk
  rcases h.2 with ⟨rfl, _⟩ | ⟨g', cap, cur, rfl, _, hh, _⟩
  · simp [Value.ownBlock] at hk
  · have : g = g' := by simpa [Value.ownBlock] using hk
    subst this
    rw [hh] at hg
    injection hg with hg
    injection hg with _ ht
    exact hne ht
theorem own_lt_ne {w : World} {base : Nat} {e : TypeId} {size n g : Nat} {v : Value} {xs : List Value} (h : w.ownsRow base e size v n xs) (hg : g < base) : some g ≠ v.ownBlock := by
  intro hk
  have := (h.lt g hk.symm).1
  omega
theorem heap_grown {w w1 : World} {row : Option Nat} (h : w.grownBy w1 row) {g : Nat} {o : Obj} (hc : w.heap[g]? = some o) (hne : some g ≠ row) : w1.heap[g]? = some o := by
  rw [h.block g (heap_lt hc) hne]; exact hc

/-! ### a block known whole -/
section
variable {w : World} {g : Nat} {t : TypeId} {cs : Array Value} {fz : Nat × Nat}
theorem blk_cell (h : w.heap[g]? = some (.cells cs t fz)) {i : Nat} {v : Value} (hi : cs[i]? = some v) : w.cell? ⟨g, i, none⟩ = some v := by rw [cell_of_row w g i cs t fz h]; exact hi
theorem blk_frozen (h : w.heap[g]? = some (.cells cs t (0, 0))) (i : Nat) : w.frozen? ⟨g, i, none⟩ = false := by simp [World.frozen?, h]
theorem blk_num {k : IntKind} {xs : List Int} (h : w.heap[g]? = some (.cells (nums k xs).toArray t fz)) (i : Nat) (hi : i < xs.length) : w.cell? ⟨g, i, none⟩ = some (.int k (rd xs i)) := blk_cell h (nums_getA k xs i hi)
theorem blk_set (h : w.heap[g]? = some (.cells cs t (0, 0))) (i : Nat) (u : Value) : (w.setCell ⟨g, i, none⟩ u).heap[g]? = some (.cells (cs.setIfInBounds i u) t (0, 0)) := by
  simp [World.setCell, Array.getElem?_modify, h]
theorem blk_far (h : w.heap[g]? = some (.cells cs t fz)) {p : Addr} (hp : g ≠ p.block) (u : Value) : (w.setCell p u).heap[g]? = some (.cells cs t fz) := (Below.heap_setCell w p u g hp).trans h
theorem blk_alloc (h : w.heap[g]? = some (.cells cs t fz)) (o : Obj) : (w.alloc o).heap[g]? = some (.cells cs t fz) := (Below.heap_alloc w o g (heap_lt h)).trans h
end

/-! ### a slice that reads as a list; nil, empty and other slices alike -/
/-- The slice '.slice A n c' reads as the values xs, each of one cell; its address, if it has an element, is a plain one. -/
def Rd (w : World) (A : Option Addr) (n : Nat) (xs : List Value) : Prop :=
  xs.length = n ∧ (0 < n → ∃ b o, A = some ⟨b, o, none⟩ ∧ ∀ j u, xs[j]? = some u → w.cell? ⟨b, o + j, none⟩ = some u)
section
variable {w w' : World} {n c : Nat} {A : Option Addr} {xs : List Value}
theorem Rd.nil (w : World) (A : Option Addr) : Rd w A 0 [] := ⟨rfl, fun h => absurd h (by omega)⟩
theorem Rd.keep (h : Rd w A n xs) (hk : ∀ p v, w.cell? p = some v → w'.cell? p = some v) : Rd w' A n xs :=
  ⟨h.1, fun hn => by
    obtain ⟨b, o, e, hc⟩ := h.2 hn
    exact ⟨b, o, e, fun j u hu => hk _ _ (hc j u hu)⟩⟩
theorem Rd.below (h : Rd w A n xs) (hb : Below w.heap.size w w') : Rd w' A n xs := h.keep fun _ _ hc => cell_below hb hc
theorem Rd.drewN (h : Rd w A n xs) (k : Nat) : Rd (w.drewN k) A n xs := h
theorem Rd.alloc (h : Rd w A n xs) (o : Obj) : Rd (w.alloc o) A n xs := h.below ((Below.refl _ _).alloc (Nat.le_refl _) _)
theorem Rd.len (h : Rd w A n xs) : xs.length = n := h.1
theorem Rd.at_ {k : IntKind} {ys : List Int} (h : Rd w A n (nums k ys)) (i : Nat) (hi : i < n) : ∃ b o, A = some ⟨b, o, none⟩ ∧ w.cell? ⟨b, o + i, none⟩ = some (.int k (rd ys i)) := by
  obtain ⟨b, o, e, hc⟩ := h.2 (by omega)
  have hl : ys.length = n := by have := h.1; rwa [nums_length] at this
  exact ⟨b, o, e, hc i _ (nums_get k ys i (by omega))⟩
theorem Rd.addr {k : IntKind} {ys : List Int} (h : Rd w A n (nums k ys)) (hn : 0 < n) : ∃ b o, A = some ⟨b, o, none⟩ ∧ ∀ i, i < n → w.cell? ⟨b, o + i, none⟩ = some (.int k (rd ys i)) := by
  obtain ⟨b, o, e, hc⟩ := h.2 hn
  have hl : ys.length = n := by have := h.1; rwa [nums_length] at this
  exact ⟨b, o, e, fun i hi => hc i _ (nums_get k ys i (by omega))⟩
theorem Rd.take_ (h : Rd w A n xs) (i : Nat) (hi : i ≤ n) : Rd w A i (xs.take i) := by
  refine ⟨by rw [List.length_take, h.1]; omega, fun hp => ?_⟩
  obtain ⟨b, o, e, hc⟩ := h.2 (by omega)
  refine ⟨b, o, e, fun j u hu => hc j u ?_⟩
  rcases Nat.lt_or_ge j i with hj | hj
  · rwa [List.getElem?_take_of_lt hj] at hu
  · rw [List.getElem?_eq_none (by rw [List.length_take]; omega)] at hu; cases hu
theorem Rd.drop_ (h : Rd w A n xs) (i : Nat) (hi : i ≤ n) (hc : n ≤ c) : Rd w (if c = i then A else A.map (·.add i)) (n - i) (xs.drop i) := by
  refine ⟨by rw [List.length_drop, h.1], fun hp => ?_⟩
  obtain ⟨b, o, rfl, hcell⟩ := h.2 (by omega)
  rw [if_neg (by omega)]
  refine ⟨b, o + i, by simp [add_plain'], fun j u hu => ?_⟩
  rw [Nat.add_assoc]
  exact hcell (i + j) u (by rwa [List.getElem?_drop] at hu)
theorem Rd.of_own {base : Nat} {e : TypeId} (h : w.ownsRow base e 1 (.slice A n c) n xs) : Rd w A n xs := by
  refine ⟨by rw [h.1, Nat.mul_one], fun hn => ?_⟩
  obtain ⟨g, cap, hv, _, hlt⟩ := h.form hn
  have hA : A = some ⟨g, 0, none⟩ := by injection hv
  subst hA
  refine ⟨g, 0, rfl, fun j u hu => ?_⟩
  have := h.cells (g := g) rfl j u hu
  rwa [add_plain, ← Nat.zero_add j] at this
theorem Rd.of_block {g o : Nat} {t : TypeId} {fz : Nat × Nat} {cs : Array Value} (hg : w.heap[g]? = some (.cells cs t fz)) (n : Nat) (ho : o + n ≤ cs.size) : Rd w (some ⟨g, o, none⟩) n ((cs.toList.drop o).take n) := by
  refine ⟨by rw [List.length_take, List.length_drop, Array.length_toList]; omega, fun _ => ⟨g, o, rfl, fun j u hu => ?_⟩⟩
  refine blk_cell hg ?_
  rcases Nat.lt_or_ge j n with hj | hj
  · rw [List.getElem?_take_of_lt hj, List.getElem?_drop] at hu
    rw [← Array.getElem?_toList]; exact hu
  · rw [List.getElem?_eq_none (by rw [List.length_take]; omega)] at hu; cases hu
theorem Rd.of_block0 {g : Nat} {t : TypeId} {fz : Nat × Nat} {xs : List Value} (hg : w.heap[g]? = some (.cells xs.toArray t fz)) : Rd w (some ⟨g, 0, none⟩) xs.length xs := by
  have := Rd.of_block hg xs.length (o := 0) (by simp)
  simpa using this
end
/-- 'xs[m:]' without a case on the capacity: laid ahead of the walk. -/
theorem cut_run {P : Program} (t e : TypeId) (kl : IntKind) {i : TypeInfo} (ht : P.underlying t = some (.slice e)) (hi : P.info? e = some i) (hsz : i.size = 1) (A : Option Addr) (n c m : Nat) (hm : m ≤ n) :
    ∃ A' : Option Addr, (∀ W : World, (Instr.slice t (.slice A n c) (some (.int kl (m : Int))) none none).run P W = .ok (.slice A' (n - m) (c - m)) W) ∧
      ∀ (w : World) (xs : List Value), n ≤ c → Rd w A n xs → Rd w A' (n - m) (xs.drop m) := by
  refine ⟨if c = m then A else A.map (·.add m), fun W => ?_, fun w xs hc h => h.drop_ m hm hc⟩
  have hel : P.elem t = e := by simp [Program.elem, ht]
  have hu : P.underlying t = some (.slice (P.elem t)) := by rw [hel]; exact ht
  rw [run_slice_l W t A n c hu kl (m : Int) (Int.natCast_nonneg _) (by omega), hel]
  simp [sizeOf, typeInfo, hi, hsz, sliced, Result.andThen]

/-! ### append onto a row of the call's own, from whatever source -/
section
variable {P : Program} (w : World)
theorem run_app (base : Nat) (t ty e : TypeId) (z : Value) (bytes : Nat) (ht : P.underlying t = some (.slice e)) (hinfo : (P.info? e).map (fun i => (i.zero, i.size, i.bytes)) = some (some z, 1, bytes)) (hzs : z.cells.size = 1)
    (v : Value) (n : Nat) (xs : List Value) (hown : w.ownsRow base e 1 v n xs)
    (A : Option Addr) (m c : Nat) (news : List Value) (hr : Rd w A m news) (h1 : ∀ u ∈ news, u.oneCell' = true)
    (h63 : n + m ≤ maxLen) (hbytes : (n + m) * bytes ≤ 140737488355328) (hbase : base ≤ w.heap.size) :
    ∃ A' c' w', (Builtin.append_ #[t, t] ty #[v, .slice A m c]).run P w = .ok (.slice A' (n + m) c') w' ∧ w'.ownsRow base e 1 (.slice A' (n + m) c') (n + m) (xs ++ news) ∧ w.grownBy w' v.ownBlock ∧
      ((Value.slice A' (n + m) c').ownBlock = v.ownBlock ∨ (Value.slice A' (n + m) c').ownBlock = some w.heap.size) := by
  obtain ⟨i, hi, hz, hsize, hby⟩ : ∃ i, P.info? e = some i ∧ i.zero = some z ∧ i.size = 1 ∧ i.bytes = bytes := by
    cases h : P.info? e with
    | none => rw [h] at hinfo; cases hinfo
    | some i => rw [h] at hinfo; simp only [Option.map_some, Option.some.injEq, Prod.mk.injEq] at hinfo; exact ⟨i, rfl, hinfo.1, hinfo.2.1, hinfo.2.2⟩
  have fin : ∀ v' w', (Builtin.append_ #[t, t] ty #[v, .slice A m c]).run P w = .ok v' w' → w'.ownsRow base e 1 v' (n + m) (xs ++ news) → w.grownBy w' v.ownBlock → (v'.ownBlock = v.ownBlock ∨ v'.ownBlock = some w.heap.size) →
      ∃ A' c' w', (Builtin.append_ #[t, t] ty #[v, .slice A m c]).run P w = .ok (.slice A' (n + m) c') w' ∧ w'.ownsRow base e 1 (.slice A' (n + m) c') (n + m) (xs ++ news) ∧ w.grownBy w' v.ownBlock ∧
      ((Value.slice A' (n + m) c').ownBlock = v.ownBlock ∨ (Value.slice A' (n + m) c').ownBlock = some w.heap.size) := by
    intro v' w' h1 h2 h3 h4
    obtain ⟨A', c', rfl⟩ := own_slice h2
    exact ⟨A', c', w', h1, h2, h3, h4⟩
  rcases Nat.eq_zero_or_pos m with h0 | h0
  · subst h0
    have hn : news = [] := List.eq_nil_of_length_eq_zero hr.1
    subst hn
    rcases A with _ | ad
    · refine fin v w ?_ (by simpa using hown) (World.grownBy.refl w _) (.inl rfl)
      rcases hown.2 with ⟨rfl, rfl⟩ | ⟨g, cap, cur, rfl, _, _, hnc, _⟩
      · simp [Builtin.append_, run_underlying ht, sizeOf, typeInfo, hi, Builtin.lenOf, Builtin.firstCells]
      · simp [Builtin.append_, run_underlying ht, sizeOf, typeInfo, hi, Builtin.lenOf, Builtin.firstCells, hnc, storeCells]
    · obtain ⟨v', w', hrun, h2, h3, _, h5⟩ := run_append_own_at (P := P) w base t ty e i z 1 bytes ht hi hz hsize hby hzs (by omega) v n xs hown ad 0 c [] rfl (fun j u hu => by simp at hu) (fun u hu => by cases hu) h63 hbytes hbase
      exact fin v' w' hrun h2 h3 h5
  · obtain ⟨b, o, rfl, hc⟩ := hr.2 h0
    obtain ⟨v', w', hrun, h2, h3, _, h5⟩ := run_append_own_at (P := P) w base t ty e i z 1 bytes ht hi hz hsize hby hzs (by omega) v n xs hown ⟨b, o, none⟩ m c news (by rw [hr.1, Nat.mul_one])
      (fun j u hu => by rw [add_plain']; exact hc j u hu) h1 h63 hbytes hbase
    exact fin v' w' hrun h2 h3 h5

theorem wp_app {o : Oper} {a : Act} {K : Act → World → Prop} {Q : Exit → Act → World → Prop} (s x : Operand) (t : TypeId)
    (ho : o.op = .call { callee := .builtin .append, args := #[s, x], argTypes := #[t, t] })
    (base : Nat) (e : TypeId) (z : Value) (bytes : Nat) (ht : P.underlying t = some (.slice e)) (hinfo : (P.info? e).map (fun i => (i.zero, i.size, i.bytes)) = some (some z, 1, bytes)) (hzs : z.cells.size = 1)
    (v : Value) (n : Nat) (xs : List Value) (hs : a.eval s = v) (hown : w.ownsRow base e 1 v n xs)
    (A : Option Addr) (m c : Nat) (news : List Value) (hx : a.eval x = .slice A m c) (hr : Rd w A m news) (h1 : ∀ u ∈ news, u.oneCell' = true)
    (h63 : n + m ≤ maxLen) (hbytes : (n + m) * bytes ≤ 140737488355328) (hbase : base ≤ w.heap.size)
    (h : ∀ A' c' w', w'.ownsRow base e 1 (.slice A' (n + m) c') (n + m) (xs ++ news) → w.grownBy w' v.ownBlock → ((Value.slice A' (n + m) c').ownBlock = v.ownBlock ∨ (Value.slice A' (n + m) c').ownBlock = some w.heap.size) → K (a.put o.dst (.slice A' (n + m) c')) w') : o.wp P a w K Q := by
  obtain ⟨A', c', w', hrun, h2, h3, h4⟩ := run_app (P := P) w base t o.type e z bytes ht hinfo hzs v n xs hown A m c news hr h1 h63 hbytes hbase
  unfold Oper.wp execOp
  simp only [ho, resolve, invoke, builtin, Sem.run_bind, Sem.run_pure, Result.andThen_ok, List.map_toArray, List.map_cons, List.map_nil, hs, hx, hrun]
  exact h A' c' w' h2 h3 h4

theorem wpList_app {ops : Array Oper} {rest : List Oper} {o : Oper} {a : Act} {Q : Exit → Act → World → Prop} (hgd : o.guard = none) (s x : Operand) (t : TypeId)
    (ho : o.op = .call { callee := .builtin .append, args := #[s, x], argTypes := #[t, t] })
    (base : Nat) (e : TypeId) (z : Value) (bytes : Nat) (ht : P.underlying t = some (.slice e)) (hinfo : (P.info? e).map (fun i => (i.zero, i.size, i.bytes)) = some (some z, 1, bytes)) (hzs : z.cells.size = 1)
    (v : Value) (n : Nat) (xs : List Value) (hs : a.eval s = v) (hown : w.ownsRow base e 1 v n xs)
    (A : Option Addr) (m c : Nat) (news : List Value) (hx : a.eval x = .slice A m c) (hr : Rd w A m news) (h1 : ∀ u ∈ news, u.oneCell' = true)
    (h63 : n + m ≤ maxLen) (hbytes : (n + m) * bytes ≤ 140737488355328) (hbase : base ≤ w.heap.size)
    (h : ∀ A' c' w', w'.ownsRow base e 1 (.slice A' (n + m) c') (n + m) (xs ++ news) → w.grownBy w' v.ownBlock → ((Value.slice A' (n + m) c').ownBlock = v.ownBlock ∨ (Value.slice A' (n + m) c').ownBlock = some w.heap.size) → wpList P ops Q rest (a.put o.dst (.slice A' (n + m) c')) w') : wpList P ops Q (o :: rest) a w :=
  wpList_plain hgd fun _ hK => wp_app w s x t ho base e z bytes ht hinfo hzs v n xs hs hown A m c news hx hr h1 h63 hbytes hbase fun A' c' w' h2 h3 h4 => hK _ _ (h A' c' w' h2 h3 h4)

theorem step_app {ops : Array Oper} {o : Oper} {a : Act} {K : Act → World → Prop} {Q : Exit → Act → World → Prop} {E : Prop} (hgd : o.guard = none) (s x : Operand) (t : TypeId)
    (ho : o.op = .call { callee := .builtin .append, args := #[s, x], argTypes := #[t, t] })
    (base : Nat) (e : TypeId) (z : Value) (bytes : Nat) (ht : P.underlying t = some (.slice e)) (hinfo : (P.info? e).map (fun i => (i.zero, i.size, i.bytes)) = some (some z, 1, bytes)) (hzs : z.cells.size = 1)
    (v : Value) (n : Nat) (xs : List Value) (hs : a.eval s = v) (hown : w.ownsRow base e 1 v n xs)
    (A : Option Addr) (m c : Nat) (news : List Value) (hx : a.eval x = .slice A m c) (hr : Rd w A m news) (h1 : ∀ u ∈ news, u.oneCell' = true)
    (h63 : n + m ≤ maxLen) (hbytes : (n + m) * bytes ≤ 140737488355328) (hbase : base ≤ w.heap.size)
    (h : ∀ A' c' w', w'.ownsRow base e 1 (.slice A' (n + m) c') (n + m) (xs ++ news) → w.grownBy w' v.ownBlock → ((Value.slice A' (n + m) c').ownBlock = v.ownBlock ∨ (Value.slice A' (n + m) c').ownBlock = some w.heap.size) → K (a.put o.dst (.slice A' (n + m) c')) w') :
    if Region.wanted o (yielded ops a.tmps) = true then Oper.wp P o a w K Q else E := by
  have hw : Region.wanted o (yielded ops a.tmps) = true := by simp [Region.wanted, hgd]
  rw [if_pos hw]
  exact wp_app w s x t ho base e z bytes ht hinfo hzs v n xs hs hown A m c news hx hr h1 h63 hbytes hbase h
end

/-! ### quiet calls whose contract says 'w = w'' -/
theorem quiet_left {P : Program} {f : FuncId} {args : Array Value} {w : World} {n : Nat} {v : Value}
    (h : Calls P f args (w.drewN n) fun e w' => e = .returned v ∧ w.drewN n = w') : Calls P f args (w.drewN n) fun e w'' => e = .returned v ∧ ∃ m, w'' = w.drewN m :=
  h.mono fun _ _ ⟨he, hm⟩ => ⟨he, n, hm.symm⟩
theorem quiet_add {P : Program} {f : FuncId} {args : Array Value} {w : World} {a n : Nat} {v : Value}
    (h : Calls P f args (w.drewN (a + n)) fun e w' => e = .returned v ∧ ∃ m, w' = (w.drewN (a + n)).drewN m) :
    Calls P f args (w.drewN (a + n)) fun e w'' => e = .returned v ∧ ∃ m, w'' = w.drewN (a + m) :=
  h.mono fun _ _ ⟨he, m, hm⟩ => ⟨he, n + m, by rw [hm, World.drewN_drewN, Nat.add_assoc]⟩
theorem quiet_add_left {P : Program} {f : FuncId} {args : Array Value} {w : World} {a n : Nat} {v : Value}
    (h : Calls P f args (w.drewN (a + n)) fun e w' => e = .returned v ∧ w.drewN (a + n) = w') :
    Calls P f args (w.drewN (a + n)) fun e w'' => e = .returned v ∧ ∃ m, w'' = w.drewN (a + m) :=
  h.mono fun _ _ ⟨he, hm⟩ => ⟨he, n, hm.symm⟩
theorem quiet_sub {P : Program} {f : FuncId} {args : Array Value} {w : World} {n : Nat} {v : Value}
    (h : Calls P f args (w.drewN n) fun e w' => e = .returned v ∧ ∃ m, w' = (w.drewN n).drewN m) : Calls P f args (w.drewN n) fun e w'' => e = .returned v ∧ ∃ m, w'' = w.drewN m := Calls.quiet_of h

/-! ### results that lie in cells -/
theorem results_cell_tmp {P : Program} {fn : Func} {p q : Tmp} {ty : TypeId} (h : fn.results = #[.cell p ty, .tmp q]) (tmps : Array Value) (w : World) (g : Nat) (t : TypeId) (cs : Array Value) (fr : Nat × Nat) (d : TypeDesc)
    (hp : tmps.getD p undef = .pointer (some ⟨g, 0, none⟩)) (hg : w.heap[g]? = some (.cells cs t fr))
    (hu : P.underlying ty = some d) (hd : (match d with | .struct _ | .array _ _ => true | _ => false) = true) (hi : (P.info? ty).map (·.size) = some cs.size) :
    (results fn tmps).run P w = .ok (.tuple #[.agg cs, tmps.getD q undef]) w := by
  have hp' : tmps[p]?.getD undef = .pointer (some ⟨g, 0, none⟩) := by simpa using hp
  simp [results, h, hp', asAddr, run_loadVar_row w g t ty cs fr d hg hu hd hi]

/-! ### an array stored whole -/
section
variable {P : Program}
theorem below_setRow' {B g : Nat} {w0 w : World} (hb : Below B w0 w) (hBg : B ≤ g) (cs : Array Value) : Below B w0 (w.setRow g cs) :=
  hb.trans ⟨rfl, rfl, rfl, by simp [World.setRow], fun k hk => setRow_other w g k cs (by omega)⟩
theorem grown_setRow (w : World) (g : Nat) (cs : Array Value) : w.grownBy (w.setRow g cs) (some g) :=
  ⟨rfl, rfl, rfl, by simp [World.setRow], fun k _ hne => setRow_other w g k cs (fun e => hne (by rw [e]))⟩
/-- The world is as it was, but for block g. -/
structure Turned (w : World) (g : Nat) (w' : World) : Prop where
  os : w'.os = w.os
  tape : w'.tape = w.tape
  output : w'.output = w.output
  size : w'.heap.size = w.heap.size
  block : ∀ k, k ≠ g → w'.heap[k]? = w.heap[k]?
theorem Turned.keep {w w' : World} {g k : Nat} {o : Obj} (h : Turned w g w') (hk : w.heap[k]? = some o) (hne : k ≠ g) : w'.heap[k]? = some o := (h.block k hne).trans hk
theorem Turned.below {w0 w w' : World} {g B : Nat} (h : Turned w g w') (hb : Below B w0 w) (hg : B ≤ g) : Below B w0 w' :=
  hb.trans ⟨h.os, h.tape, h.output, by rw [h.size]; exact Nat.le_refl _, fun k hk => h.block k (by omega)⟩
theorem Turned.grown {w w' : World} {g : Nat} (h : Turned w g w') : w.grownBy w' (some g) :=
  ⟨h.os, h.tape, h.output, by rw [h.size]; exact Nat.le_refl _, fun k _ hne => h.block k (fun e => hne (by rw [e]))⟩
theorem turned_setRow (w : World) (g : Nat) (cs : Array Value) : Turned w g (w.setRow g cs) :=
  ⟨rfl, rfl, rfl, by simp [World.setRow], fun k hk => setRow_other w g k cs hk⟩
theorem turned_setCell (w : World) (g i : Nat) (u : Value) : Turned w g (w.setCell ⟨g, i, none⟩ u) :=
  ⟨rfl, rfl, rfl, by simp [World.setCell], fun k hk => Below.heap_setCell w _ u k hk⟩
theorem wpList_store_any {P : Program} {ops : Array Oper} {rest : List Oper} {o : Oper} {a : Act} {w : World} {Q : Exit → Act → World → Prop} (hgd : o.guard = none) (ty : TypeId) (x y : Operand) (ho : o.op = .store ty x y)
    (g : Nat) (cells : Array Value) (hx : a.eval x = .pointer (some ⟨g, 0, none⟩)) (hy : a.eval y = .agg cells)
    (t : TypeId) (old : Array Value) (hg : w.heap[g]? = some (.cells old t (0, 0))) (hi : (P.info? ty).map (·.size) = some cells.size)
    (hold : old.size = cells.size) (h1 : cells.all (·.oneCell') = true)
    (h : ∀ w', w'.heap[g]? = some (.cells cells t (0, 0)) → Turned w g w' → wpList P ops Q rest (a.put o.dst undef) w') : wpList P ops Q (o :: rest) a w :=
  wpList_store_row hgd ty x y ho g cells hx hy t old hg hi hold h1 (h _ (setRow_heap w g old cells t _ hg) (turned_setRow w g cells))
/-- A guarded operation that is wanted. -/
theorem wpList_want {P : Program} {ops : Array Oper} {rest : List Oper} {o : Oper} {a : Act} {w : World} {Q : Exit → Act → World → Prop} (hw : Region.wanted o (yielded ops a.tmps) = true)
    (h : ∀ K : Act → World → Prop, (∀ a w, wpList P ops Q rest a w → K a w) → o.wp P a w K Q) : wpList P ops Q (o :: rest) a w :=
  wpList_step fun K hK => by rw [if_pos hw]; exact h K hK
theorem wpList_load_rowG {P : Program} {ops : Array Oper} {rest : List Oper} {o : Oper} {a : Act} {w : World} {Q : Exit → Act → World → Prop} (hw : Region.wanted o (yielded ops a.tmps) = true) (ty : TypeId) (x : Operand) (ho : o.op = .load ty x)
    (g : Nat) (hx : a.eval x = .pointer (some ⟨g, 0, none⟩)) (t : TypeId) (cs : Array Value) (fr : Nat × Nat) (d : TypeDesc) (hg : w.heap[g]? = some (.cells cs t fr))
    (hu : P.underlying ty = some d) (hd : (match d with | .struct _ | .array _ _ => true | _ => false) = true) (hi : (P.info? ty).map (·.size) = some cs.size)
    (h : wpList P ops Q rest (a.put o.dst (.agg cs)) w) : wpList P ops Q (o :: rest) a w :=
  wpList_want hw fun _ hK => wp_load_row ty x ho g hx t cs fr d hg hu hd hi (hK _ _ h)
theorem nums_all (k : IntKind) (xs : List Int) : (nums k xs).toArray.all (·.oneCell') = true := by
  rw [Array.all_eq_true']; intro u hu; exact nums_one k xs u (by simpa using hu)
end

/-! ### strings -/
theorem conv_rd {P : Program} {w : World} {n c : Nat} {src dst e : TypeId} {A : Option Addr} {xs : List Int} (hs : P.underlying src = some (.slice e)) (he : P.underlying e = some (.int .u8)) (hd : P.underlying dst = some .string)
    (h : Rd w A n (nums .u8 xs)) : (convert src dst (.slice A n c)).run P w = .ok (.string (strOfNums xs)) w := by
  have hl : xs.length = n := by have := h.1; rwa [nums_length] at this
  rcases Nat.eq_zero_or_pos n with h0 | h0
  · subst h0
    obtain rfl : xs = [] := List.eq_nil_of_length_eq_zero hl
    rcases A with _ | ⟨b, o, s⟩
    · exact run_convert_bytes_nil w src e hs he 0 c dst hd
    · rw [run_convert_bytes_string w src dst e _ 0 c hs he hd]
      simp [Conv.bytesToString, loadCells, loadCellsFrom]
      rfl
  · obtain ⟨b, o, rfl, hc⟩ := h.addr h0
    exact run_convert_bytes_arg w src e hs he b o n c xs hl hc dst hd
theorem own_string {P : Program} {w : World} {base n : Nat} {e' src dst e : TypeId} {v : Value} {xs : List Int} (hs : P.underlying src = some (.slice e)) (he : P.underlying e = some (.int .u8)) (hd : P.underlying dst = some .string)
    (h : w.ownsRow base e' 1 v n (nums .u8 xs)) : (convert src dst v).run P w = .ok (.string (strOfNums xs)) w := by
  obtain ⟨A, c, rfl⟩ := own_slice h
  exact conv_rd hs he hd (Rd.of_own h)
theorem strOf_toList (xs : List Int) : (strOfNums xs).data.toList = xs.map fun n => UInt8.ofNat n.toNat := rfl
theorem run_index_str (P : Program) (T : TypeId) (hT : P.underlying T = some .string) (s : ByteArray) (k : IntKind) (i : Nat) (h : i < s.size) (w : World) : (Instr.index T (.string s) (.int k (i : Int))).run P w = .ok (.int .u8 (s[i].toNat : Int)) w := by
  have hb : s[i]? = some s[i] := by simp [h]
  simp [Instr.index, asIntOf, run_underlying hT, hb]
/-- The byte at a place of a string, as a number. -/
def bt (s : ByteArray) (i : Nat) : Int := rd (s.data.toList.map fun b => (b.toNat : Int)) i
def bytesOf (s : ByteArray) : List Int := s.data.toList.map fun b => (b.toNat : Int)
theorem data_length (s : ByteArray) : s.data.toList.length = s.size := by rw [Array.length_toList]; rfl
theorem bytesOf_length (s : ByteArray) : (bytesOf s).length = s.size := by rw [bytesOf, List.length_map, data_length]
theorem bytesOf_bytes (s : ByteArray) : Bytes (bytesOf s) := by
  intro x hx
  simp only [bytesOf, List.mem_map] at hx
  obtain ⟨b, _, rfl⟩ := hx
  have := b.toNat_lt
  omega
theorem bt_eq (s : ByteArray) (i : Nat) : bt s i = rd (bytesOf s) i := rfl
theorem bt_range (s : ByteArray) (i : Nat) : 0 ≤ bt s i ∧ bt s i ≤ 255 := (bytesOf_bytes s).rd i
theorem bt_at (s : ByteArray) (i : Nat) (h : i < s.size) : ((s[i].toNat : Nat) : Int) = bt s i := by
  have h' : i < s.data.toList.length := by rw [data_length]; exact h
  unfold bt rd
  simp [List.getD_eq_getElem?_getD, List.getElem?_eq_getElem h']
  rfl
theorem run_index_bt (P : Program) (T : TypeId) (hT : P.underlying T = some .string) (s : ByteArray) (k : IntKind) (i : Nat) (h : i < s.size) (w : World) : (Instr.index T (.string s) (.int k (i : Int))).run P w = .ok (.int .u8 (bt s i)) w := by
  rw [run_index_str P T hT s k i h w, bt_at s i h]
theorem strOf_bytesOf (s : ByteArray) : strOfNums (bytesOf s) = s := by
  obtain ⟨⟨l⟩⟩ := s
  simp only [strOfNums, bytesOf, List.map_map]
  congr
  conv => rhs; rw [← List.map_id l]
  apply List.map_congr_left
  intro b _
  simp
theorem bytesOf_strOf (xs : List Int) (h : Bytes xs) : bytesOf (strOfNums xs) = xs := by
  simp only [strOfNums, bytesOf, List.map_map]
  conv => rhs; rw [← List.map_id xs]
  apply List.map_congr_left
  intro x hx
  have := h x hx
  simp only [Function.comp, id]
  rw [UInt8.toNat_ofNat_of_lt' (by simp only [UInt8.size]; omega)]
  omega
theorem strOfNums_inj {xs ys : List Int} (h : Bytes xs) (k : Bytes ys) (e : strOfNums xs = strOfNums ys) : xs = ys := by
  rw [← bytesOf_strOf xs h, ← bytesOf_strOf ys k, e]
def signs : ByteArray := ⟨#[48, 49, 50, 51, 52, 53, 54, 55, 56, 57, 97, 98, 99, 100, 101, 102]⟩
def sg (x : Int) : Int := if x < 10 then 48 + x else 87 + x
theorem run_signs (P : Program) (T : TypeId) (hT : P.underlying T = some .string) (k : IntKind) (x : Int) (h0 : 0 ≤ x) (h1 : x < 16) (w : World) : (Instr.index T (.string ⟨#[48, 49, 50, 51, 52, 53, 54, 55, 56, 57, 97, 98, 99, 100, 101, 102]⟩) (.int k x)).run P w = .ok (.int .u8 (sg x)) w := by
  obtain ⟨n, rfl⟩ := Int.eq_ofNat_of_zero_le h0
  have hn : n < 16 := by omega
  have key : ∃ b : UInt8, (ByteArray.mk #[48, 49, 50, 51, 52, 53, 54, 55, 56, 57, 97, 98, 99, 100, 101, 102])[n]? = some b ∧ (b.toNat : Int) = sg n := by
    match n, hn with
    | 0, _ | 1, _ | 2, _ | 3, _ | 4, _ | 5, _ | 6, _ | 7, _ | 8, _ | 9, _ | 10, _ | 11, _ | 12, _ | 13, _ | 14, _ | 15, _ => exact ⟨_, rfl, by decide⟩
  obtain ⟨b, hb, he⟩ := key
  simp [Instr.index, asIntOf, run_underlying hT, hb, he]
theorem strOf_append (xs ys : List Int) : strOfNums xs ++ strOfNums ys = strOfNums (xs ++ ys) := by
  apply ByteArray.ext
  simp [strOfNums, ByteArray.data_append]
theorem run_add_nums {P : Program} (xs ys : List Int) (h : xs.length + ys.length ≤ 9223372036854775807) (W : World) : (Op.stringOp .add (strOfNums xs) (strOfNums ys)).run P W = .ok (.string (strOfNums (xs ++ ys))) W := by
  rw [run_string_add_sum W _ _ (by rw [strOfNums_size, strOfNums_size]; exact h), strOf_append]
theorem run_sign_cut (P : Program) (T : TypeId) (hT : P.underlying T = some .string) (x : Int) (h0 : 0 ≤ x) (h1 : x < 16) (w : World) :
    (Instr.slice T (.string ⟨#[48, 49, 50, 51, 52, 53, 54, 55, 56, 57, 97, 98, 99, 100, 101, 102]⟩) (some (.int .i64 x)) (some (.int .i64 (x + 1))) none).run P w = .ok (.string (strOfNums [sg x])) w := by
  obtain ⟨n, rfl⟩ := Int.eq_ofNat_of_zero_le h0
  have hn : n < 16 := by omega
  match n, hn with
  | 0, _ | 1, _ | 2, _ | 3, _ | 4, _ | 5, _ | 6, _ | 7, _ | 8, _ | 9, _ | 10, _ | 11, _ | 12, _ | 13, _ | 14, _ | 15, _ =>
    rw [run_slice_string w T _ .i64 .i64 _ _ hT (by decide) (by decide) (by decide)]
    exact congrArg (fun s => Result.ok (Value.string s) w) (by decide)

/-! ### arrays of whole numbers compared -/
theorem all_range_rd : ∀ (xs ys : List Int), xs.length = ys.length → ((List.range xs.length).all fun i => rd xs i == rd ys i) = (xs == ys)
  | [], [], _ => rfl
  | x :: xs, y :: ys, h => by
    have ih := all_range_rd xs ys (by simpa using h)
    rw [List.length_cons, List.range_succ_eq_map, List.all_cons, List.all_map]
    simp only [rd, List.getD_cons_zero, Function.comp_def, List.getD_cons_succ] at ih ⊢
    rw [ih]
    simp [List.cons_beq_cons]
  | [], _ :: _, h => by simp at h
  | _ :: _, [], h => by simp at h
section
variable {P : Program} (w : World)
theorem run_equalIn_nums (d : Nat) (t e : TypeId) (n : Nat) (k k' : IntKind) (ht : P.underlying t = some (.array n e)) (he : P.underlying e = some (.int k')) (hsz : (P.info? e).map (·.size) = some 1)
    (xs ys : List Int) (hx : xs.length = n) (hy : ys.length = n) :
    (Op.equalIn (d + 2) t (.agg (nums k xs).toArray) (.agg (nums k ys).toArray)).run P w = .ok (xs == ys) w := by
  have hsz : ∀ w, (sizeOf e).run P w = .ok 1 w := by
    intro w
    cases h : P.info? e with
    | none => rw [h] at hsz; cases hsz
    | some i => rw [h] at hsz; simp only [Option.map_some, Option.some.injEq] at hsz; simp [sizeOf, typeInfo, h, hsz]
  rw [← all_range_rd xs ys (hx.trans hy.symm), hx, List.range_eq_range', Op.equalIn]
  simp only [Sem.run_bind, run_underlying ht, Result.andThen_ok, hsz, Std.Legacy.Range.forIn_eq_forIn_range', Std.Legacy.Range.size, Nat.sub_zero, Nat.add_sub_cancel, Nat.div_one]
  have hl : ∀ i ∈ List.range' 0 n 1, i < n := fun i hi => by simpa using (List.mem_range'_1.1 hi).2
  generalize List.range' 0 n 1 = l at hl ⊢
  induction l with
  | nil => simp
  | cons i l ih =>
    have hi : i < n := hl i (by simp)
    have px : (part e (nums k xs).toArray (i * 1)).run P w = .ok (.int k (rd xs i)) w := by
      have := nums_get k xs i (by omega)
      simp [part, isAgg, run_underlying he, this]
    have py : (part e (nums k ys).toArray (i * 1)).run P w = .ok (.int k (rd ys i)) w := by
      have := nums_get k ys i (by omega)
      simp [part, isAgg, run_underlying he, this]
    have pe : (Op.equalIn (d + 1) e (.int k (rd xs i)) (.int k (rd ys i))).run P w = .ok (rd xs i == rd ys i) w := run_equalIn_int w d e k k' _ _ he
    simp only [List.forIn_cons, Sem.run_bind, px, py, pe, Result.andThen_ok, List.all_cons]
    cases hb : (rd xs i == rd ys i)
    · simp
    · simp only [Bool.not_true, Bool.false_eq_true, if_false, Sem.run_pure, Result.andThen_ok, Bool.true_and]
      exact ih fun j hj => hl j (by simp [hj])
theorem run_eql_nums (t e : TypeId) (n : Nat) (k k' : IntKind) (ht : P.underlying t = some (.array n e)) (he : P.underlying e = some (.int k')) (hsz : (P.info? e).map (·.size) = some 1)
    (xs ys : List Int) (hx : xs.length = n) (hy : ys.length = n) :
    (binOp .eql t (.agg (nums k xs).toArray) (.agg (nums k ys).toArray)).run P w = .ok (.bool (xs == ys)) w := by
  rw [run_eql_struct, run_equalIn_nums w 9998 t e n k k' ht he hsz xs ys hx hy]
  rfl
theorem run_neq_nums (t e : TypeId) (n : Nat) (k k' : IntKind) (ht : P.underlying t = some (.array n e)) (he : P.underlying e = some (.int k')) (hsz : (P.info? e).map (·.size) = some 1)
    (xs ys : List Int) (hx : xs.length = n) (hy : ys.length = n) :
    (binOp .neq t (.agg (nums k xs).toArray) (.agg (nums k ys).toArray)).run P w = .ok (.bool (!(xs == ys))) w := by
  rw [run_neq_struct, run_equalIn_nums w 9998 t e n k k' ht he hsz xs ys hx hy]
  rfl
end
end Go.Proofs.Ytjlkakggmfmfiaa
