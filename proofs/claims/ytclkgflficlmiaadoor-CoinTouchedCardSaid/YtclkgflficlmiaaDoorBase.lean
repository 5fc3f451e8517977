/- Words and laws on any program: rows of whole numbers, whole blocks, appends, arrays stored whole, strings. | Kinds: what a value's cells say, on any program; the rows inside lie in blocks that are held still (S). What came in is of a kind. | Numbers laid with their lowest byte first, in plain terms. | The frame of a law's row: a call that returns true and turns nothing that was there leaves every argument reading as it did. | Transactions: what their cells say, on any program; their bytes in plain terms. | A number as Bitcoin lays it, read: in plain terms. | The reader of tx.Decode in plain terms: what is left, what each step takes. | Further laws on any program: a row read in a quiet region, bytes copied into a block, a global's block. | append onto a row of the call's own, its new length and content said by the caller. | Rows of the call's own whose elements are of a kind (digests, structs ..): what they hold, reading them, append onto them. | append onto a row of the call's own of elements whose inner rows lie in held blocks, from wherever the new elements lie. | Laws on any program that several layers use: a slice of bytes cut, cells in the midst of a block, empty rows, stores and copies in a drawn region. | Transactions that came in are of their kind. -/
import Derived.WalkKit
import Derived.WalkSpells
import Derived.Deep.AppendLies
import Derived.Deep.Draws
import Derived.Deep.WholeRow
import Derived.Deep.MidRow
import Derived.Maps.AppendAt
import Derived.Laws.CopyOwn
import Derived.Laws.BitsAllLaws
import Derived.Laws.BitsLemmas
import Derived.Lib.Hide
import Derived.Deep.QuietTactic
import Derived.ProofKit
import Derived.OpenShut
import Derived.Handed
import Derived.Carry
import Derived.BigQuiet
import Derived.Laws.CopyRow
import Derived.Laws.IdiomCopy
import Derived.Shelf.Spec.SlicesInsert
import Derived.ArgAppend
import Derived.Test.YtclkgflficlmiaaDoorChecked
import Derived.Deep.RegionHeld3
import Derived.Great.BuildSlice
import Derived.KernelRfl
/-! ## Words -/
section
set_option linter.unusedVariables false
namespace Go.Proofs.YtclkgflficlmiaaDoor
open Go Go.RowKit

/-! ### numbers and lists -/
def rd (xs : List Int) (i : Nat) : Int := xs.getD i 0
def nums (k : IntKind) (xs : List Int) : List Value := xs.map fun x => .int k x
theorem nums_length (k : IntKind) (xs : List Int) : (nums k xs).length = xs.length := by simp [nums]
theorem nums_append (k : IntKind) (xs ys : List Int) : nums k (xs ++ ys) = nums k xs ++ nums k ys := by simp [nums]
theorem nums_take (k : IntKind) (xs : List Int) (n : Nat) : (nums k xs).take n = nums k (xs.take n) := by simp [nums, List.map_take]
theorem nums_drop (k : IntKind) (xs : List Int) (n : Nat) : (nums k xs).drop n = nums k (xs.drop n) := by simp [nums, List.map_drop]
theorem nums_get (k : IntKind) (xs : List Int) (i : Nat) (h : i < xs.length) : (nums k xs)[i]? = some (.int k (rd xs i)) := by
  simp [nums, rd, List.getD_eq_getElem?_getD, List.getElem?_eq_getElem h]
theorem nums_getA (k : IntKind) (xs : List Int) (i : Nat) (h : i < xs.length) : (nums k xs).toArray[i]? = some (.int k (rd xs i)) := by
  rw [List.getElem?_toArray]; exact nums_get k xs i h
theorem nums_set (k : IntKind) (xs : List Int) (i : Nat) (x : Int) : (nums k xs).set i (.int k x) = nums k (xs.set i x) := by simp [nums, List.map_set]
theorem nums_setA (k : IntKind) (xs : List Int) (i : Nat) (x : Int) : (nums k xs).toArray.setIfInBounds i (.int k x) = (nums k (xs.set i x)).toArray := by
  rw [← nums_set]; simp
theorem nums_size (k : IntKind) (xs : List Int) : (nums k xs).toArray.size = xs.length := by simp [nums]
theorem nums_one (k : IntKind) (xs : List Int) : ∀ u ∈ nums k xs, u.oneCell' = true := by
  intro u hu; simp only [nums, List.mem_map] at hu; obtain ⟨x, _, rfl⟩ := hu; rfl
theorem rd_append_left (xs ys : List Int) (i : Nat) (h : i < xs.length) : rd (xs ++ ys) i = rd xs i := by
  unfold rd; simp [List.getD_eq_getElem?_getD, List.getElem?_append_left h]
theorem rd_append_right (xs ys : List Int) (i : Nat) (h : xs.length ≤ i) : rd (xs ++ ys) i = rd ys (i - xs.length) := by
  unfold rd; simp [List.getD_eq_getElem?_getD, List.getElem?_append_right h]
theorem rd_drop (xs : List Int) (n i : Nat) : rd (xs.drop n) i = rd xs (n + i) := by
  unfold rd; simp [List.getD_eq_getElem?_getD]
theorem rd_take (xs : List Int) (n i : Nat) (h : i < n) : rd (xs.take n) i = rd xs i := by
  unfold rd; simp [List.getD_eq_getElem?_getD, h]
theorem rd_set_same (xs : List Int) (i : Nat) (x : Int) (h : i < xs.length) : rd (xs.set i x) i = x := by
  unfold rd; simp [List.getD_eq_getElem?_getD, h]
theorem rd_set_ne (xs : List Int) (i j : Nat) (x : Int) (h : i ≠ j) : rd (xs.set i x) j = rd xs j := by
  unfold rd; simp [List.getD_eq_getElem?_getD, List.getElem?_set_ne h]
theorem rd_ext (xs ys : List Int) (h : xs.length = ys.length) (hr : ∀ i, i < xs.length → rd xs i = rd ys i) : xs = ys := by
  apply List.ext_getElem h
  intro i h1 h2
  have := hr i h1
  unfold rd at this
  simpa [List.getD_eq_getElem?_getD, List.getElem?_eq_getElem h1, List.getElem?_eq_getElem h2] using this
theorem rd_mem (xs : List Int) (i : Nat) (h : i < xs.length) : rd xs i ∈ xs := by
  unfold rd; simp [List.getD_eq_getElem?_getD, List.getElem?_eq_getElem h]
theorem rd_beyond (xs : List Int) (i : Nat) (h : xs.length ≤ i) : rd xs i = 0 := by
  unfold rd; simp [List.getD_eq_getElem?_getD, List.getElem?_eq_none h]
/-- Every element is a byte. -/
def Bytes (xs : List Int) : Prop := ∀ x ∈ xs, 0 ≤ x ∧ x ≤ 255
theorem Bytes.rd {xs : List Int} (h : Bytes xs) (i : Nat) : 0 ≤ rd xs i ∧ rd xs i ≤ 255 := by
  rcases Nat.lt_or_ge i xs.length with hl | hl
  · exact h _ (rd_mem xs i hl)
  · rw [rd_beyond xs i hl]; omega
theorem Bytes.append {xs ys : List Int} (h : Bytes xs) (k : Bytes ys) : Bytes (xs ++ ys) := by
  intro x hx; rcases List.mem_append.1 hx with hx | hx
  · exact h x hx
  · exact k x hx
theorem Bytes.drop {xs : List Int} (h : Bytes xs) (n : Nat) : Bytes (xs.drop n) := fun x hx => h x (List.mem_of_mem_drop hx)
theorem Bytes.take {xs : List Int} (h : Bytes xs) (n : Nat) : Bytes (xs.take n) := fun x hx => h x (List.mem_of_mem_take hx)
theorem Bytes.nil : Bytes [] := fun x hx => by cases hx

/-! ### addresses -/
theorem add_plain (g j : Nat) : (⟨g, 0, none⟩ : Addr).add j = ⟨g, j, none⟩ := by unfold Addr.add; split <;> simp_all
theorem add_plain' (g o j : Nat) : (⟨g, o, none⟩ : Addr).add j = ⟨g, o + j, none⟩ := by unfold Addr.add; split <;> simp_all
theorem block_of_add (a : Addr) (n : Nat) : (a.add n).block = a.block := by unfold Addr.add; split <;> rfl
theorem add_of_add (a : Addr) (i j : Nat) : (a.add i).add j = a.add (i + j) := by
  unfold Addr.add
  by_cases hi : i = 0 <;> by_cases hj : j = 0 <;> simp [hi, hj, Nat.add_assoc]

/-! ### worlds -/
theorem below_drewN {B : Nat} {w W : World} (h : Below B w W) (n : Nat) : Below B w (W.drewN n) := ⟨h.os, h.tape, h.output, h.size, h.block⟩
theorem below_of_drewN {w W : World} (h : ∃ n, W = w.drewN n) (B : Nat) : Below B w W := by
  obtain ⟨n, rfl⟩ := h; exact below_drewN (Below.refl _ _) n
theorem below_then {B : Nat} {w w1 w2 : World} (h : Below B w w1) (hB : B ≤ w1.heap.size) (k : Below w1.heap.size w1 w2) : Below B w w2 :=
  h.trans (k.mono hB)
theorem grown_of_below {w w1 : World} (h : Below w.heap.size w w1) (row : Option Nat) : w.grownBy w1 row := ⟨h.os, h.tape, h.output, h.size, fun i hi _ => h.block i hi⟩
theorem cell_below {w w1 : World} (h : Below w.heap.size w w1) {a : Addr} {v : Value} (hc : w.cell? a = some v) : w1.cell? a = some v := (h.cell (World.block_lt_of_cell? w a hc)).trans hc
theorem heap_below {w w1 : World} (h : Below w.heap.size w w1) {g : Nat} {o : Obj} (hc : w.heap[g]? = some o) : w1.heap[g]? = some o := by
  rw [h.block g (Array.getElem?_eq_some_iff.1 hc).1]; exact hc
theorem heap_lt {w : World} {g : Nat} {o : Obj} (hc : w.heap[g]? = some o) : g < w.heap.size := (Array.getElem?_eq_some_iff.1 hc).1
theorem own_below {w w1 : World} {base : Nat} {e : TypeId} {size n : Nat} {v : Value} {xs : List Value} (h : w.ownsRow base e size v n xs) (hb : Below w.heap.size w w1) : w1.ownsRow base e size v n xs :=
  h.kept (grown_of_below hb none) (by cases v.ownBlock <;> simp)
theorem own_drewN {w : World} {base : Nat} {e : TypeId} {size n : Nat} {v : Value} {xs : List Value} (h : w.ownsRow base e size v n xs) (k : Nat) : (w.drewN k).ownsRow base e size v n xs := h
theorem own_slice {w : World} {base n : Nat} {e : TypeId} {size : Nat} {v : Value} {xs : List Value} (h : w.ownsRow base e size v n xs) : ∃ A c, v = .slice A n c := by
  rcases h.2 with ⟨rfl, rfl⟩ | ⟨g, cap, cur, rfl, _⟩
  · exact ⟨none, 0, rfl⟩
  · exact ⟨_, cap, rfl⟩
theorem own_base {w : World} {base : Nat} {e : TypeId} {size n : Nat} {v : Value} {xs : List Value} (h : w.ownsRow base e size v n xs) (k : Nat) (hk : v.ownBlock = some k) : base ≤ k := (h.lt k hk).1
theorem own_max {w : World} {base : Nat} {e : TypeId} {size n : Nat} {v : Value} {xs : List Value} (h : w.ownsRow base e size v n xs) : n ≤ maxLen := by
  rcases h.2 with ⟨_, rfl⟩ | ⟨g, cap, cur, _, _, _, h1, h2, _⟩
  · exact Nat.zero_le _
  · exact Nat.le_trans h1 h2
theorem own_mono {w : World} {base base' : Nat} {e : TypeId} {size n : Nat} {v : Value} {xs : List Value} (h : w.ownsRow base e size v n xs) (hb : base' ≤ base) : w.ownsRow base' e size v n xs := by
  refine ⟨h.1, ?_⟩
  rcases h.2 with h | ⟨g, cap, cur, hv, hg, r⟩
  · exact .inl h
  · exact .inr ⟨g, cap, cur, hv, Nat.le_trans hb hg, r⟩
theorem own_type_ne {w : World} {b b' : Nat} {e e' : TypeId} {s s' n n' : Nat} {v v' : Value} {xs xs' : List Value} (h : w.ownsRow b e s v n xs) (h' : w.ownsRow b' e' s' v' n' xs') (hne : e ≠ e') : v.ownBlock = none ∨ v.ownBlock ≠ v'.ownBlock := by
  rcases h.2 with ⟨rfl, _⟩ | ⟨g, cap, cur, rfl, _, hh, _⟩
  · exact .inl rfl
  · refine .inr fun hk => ?_
    rcases h'.2 with ⟨rfl, _⟩ | ⟨g', cap', cur', rfl, _, hh', _⟩
    · simp [Value.ownBlock] at hk
    · have : g = g' := by simpa [Value.ownBlock] using hk
      subst this
      rw [hh] at hh'
      injection hh' with hh'
      injection hh' with _ ht
      exact hne ht
theorem own_blk_ne {w : World} {base : Nat} {e t : TypeId} {size n g : Nat} {v : Value} {xs : List Value} {cs : Array Value} {fz : Nat × Nat} (h : w.ownsRow base e size v n xs) (hg : w.heap[g]? = some (.cells cs t fz)) (hne : e ≠ t) : some g ≠ v.ownBlock := by
  intro hk
  rcases h.2 with ⟨rfl, _⟩ | ⟨g', cap, cur, rfl, _, hh, _⟩
  · simp [Value.ownBlock] at hk
  · have : g = g' := by simpa [Value.ownBlock] using hk
    subst this
    rw [hh] at hg
    injection hg with hg
    injection hg with _ ht
    exact hne ht
theorem own_lt_ne {w : World} {base : Nat} {e : TypeId} {size n g : Nat} {v : Value} {xs : List Value} (h : w.ownsRow base e size v n xs) (hg : g < base) : some g ≠ v.ownBlock := by
  intro hk
  have := (h.lt g hk.symm).1
  omega
theorem heap_grown {w w1 : World} {row : Option Nat} (h : w.grownBy w1 row) {g : Nat} {o : Obj} (hc : w.heap[g]? = some o) (hne : some g ≠ row) : w1.heap[g]? = some o := by
  rw [h.block g (heap_lt hc) hne]; exact hc

/-! ### a block known whole -/
section
variable {w : World} {g : Nat} {t : TypeId} {cs : Array Value} {fz : Nat × Nat}
theorem blk_cell (h : w.heap[g]? = some (.cells cs t fz)) {i : Nat} {v : Value} (hi : cs[i]? = some v) : w.cell? ⟨g, i, none⟩ = some v := by rw [cell_of_row w g i cs t fz h]; exact hi
theorem blk_frozen (h : w.heap[g]? = some (.cells cs t (0, 0))) (i : Nat) : w.frozen? ⟨g, i, none⟩ = false := by simp [World.frozen?, h]
theorem blk_num {k : IntKind} {xs : List Int} (h : w.heap[g]? = some (.cells (nums k xs).toArray t fz)) (i : Nat) (hi : i < xs.length) : w.cell? ⟨g, i, none⟩ = some (.int k (rd xs i)) := blk_cell h (nums_getA k xs i hi)
theorem blk_set (h : w.heap[g]? = some (.cells cs t (0, 0))) (i : Nat) (u : Value) : (w.setCell ⟨g, i, none⟩ u).heap[g]? = some (.cells (cs.setIfInBounds i u) t (0, 0)) := by
  simp [World.setCell, Array.getElem?_modify, h]
theorem blk_far (h : w.heap[g]? = some (.cells cs t fz)) {p : Addr} (hp : g ≠ p.block) (u : Value) : (w.setCell p u).heap[g]? = some (.cells cs t fz) := (Below.heap_setCell w p u g hp).trans h
theorem blk_alloc (h : w.heap[g]? = some (.cells cs t fz)) (o : Obj) : (w.alloc o).heap[g]? = some (.cells cs t fz) := (Below.heap_alloc w o g (heap_lt h)).trans h
end

/-! ### a slice that reads as a list; nil, empty and other slices alike -/
/-- The slice '.slice A n c' reads as the values xs, each of one cell; its address, if it has an element, is a plain one. -/
def Rd (w : World) (A : Option Addr) (n : Nat) (xs : List Value) : Prop :=
  xs.length = n ∧ (0 < n → ∃ b o, A = some ⟨b, o, none⟩ ∧ ∀ j u, xs[j]? = some u → w.cell? ⟨b, o + j, none⟩ = some u)
section
variable {w w' : World} {n c : Nat} {A : Option Addr} {xs : List Value}
theorem Rd.nil (w : World) (A : Option Addr) : Rd w A 0 [] := ⟨rfl, fun h => absurd h (by omega)⟩
theorem Rd.keep (h : Rd w A n xs) (hk : ∀ p v, w.cell? p = some v → w'.cell? p = some v) : Rd w' A n xs :=
  ⟨h.1, fun hn => by
    obtain ⟨b, o, e, hc⟩ := h.2 hn
    exact ⟨b, o, e, fun j u hu => hk _ _ (hc j u hu)⟩⟩
theorem Rd.below (h : Rd w A n xs) (hb : Below w.heap.size w w') : Rd w' A n xs := h.keep fun _ _ hc => cell_below hb hc
theorem Rd.drewN (h : Rd w A n xs) (k : Nat) : Rd (w.drewN k) A n xs := h
theorem Rd.alloc (h : Rd w A n xs) (o : Obj) : Rd (w.alloc o) A n xs := h.below ((Below.refl _ _).alloc (Nat.le_refl _) _)
theorem Rd.len (h : Rd w A n xs) : xs.length = n := h.1
theorem Rd.at_ {k : IntKind} {ys : List Int} (h : Rd w A n (nums k ys)) (i : Nat) (hi : i < n) : ∃ b o, A = some ⟨b, o, none⟩ ∧ w.cell? ⟨b, o + i, none⟩ = some (.int k (rd ys i)) := by
  obtain ⟨b, o, e, hc⟩ := h.2 (by omega)
  have hl : ys.length = n := by have := h.1; rwa [nums_length] at this
  exact ⟨b, o, e, hc i _ (nums_get k ys i (by omega))⟩
theorem Rd.addr {k : IntKind} {ys : List Int} (h : Rd w A n (nums k ys)) (hn : 0 < n) : ∃ b o, A = some ⟨b, o, none⟩ ∧ ∀ i, i < n → w.cell? ⟨b, o + i, none⟩ = some (.int k (rd ys i)) := by
  obtain ⟨b, o, e, hc⟩ := h.2 hn
  have hl : ys.length = n := by have := h.1; rwa [nums_length] at this
  exact ⟨b, o, e, fun i hi => hc i _ (nums_get k ys i (by omega))⟩
theorem Rd.take_ (h : Rd w A n xs) (i : Nat) (hi : i ≤ n) : Rd w A i (xs.take i) := by
  refine ⟨by rw [List.length_take, h.1]; omega, fun hp => ?_⟩
  obtain ⟨b, o, e, hc⟩ := h.2 (by omega)
  refine ⟨b, o, e, fun j u hu => hc j u ?_⟩
  rcases Nat.lt_or_ge j i with hj | hj
  · rwa [List.getElem?_take_of_lt hj] at hu
  · rw [List.getElem?_eq_none (by rw [List.length_take]; omega)] at hu; cases hu
theorem Rd.drop_ (h : Rd w A n xs) (i : Nat) (hi : i ≤ n) (hc : n ≤ c) : Rd w (if c = i then A else A.map (·.add i)) (n - i) (xs.drop i) := by
  refine ⟨by rw [List.length_drop, h.1], fun hp => ?_⟩
  obtain ⟨b, o, rfl, hcell⟩ := h.2 (by omega)
  rw [if_neg (by omega)]
  refine ⟨b, o + i, by simp [add_plain'], fun j u hu => ?_⟩
  rw [Nat.add_assoc]
  exact hcell (i + j) u (by rwa [List.getElem?_drop] at hu)
theorem Rd.of_own {base : Nat} {e : TypeId} (h : w.ownsRow base e 1 (.slice A n c) n xs) : Rd w A n xs := by
  refine ⟨by rw [h.1, Nat.mul_one], fun hn => ?_⟩
  obtain ⟨g, cap, hv, _, hlt⟩ := h.form hn
  have hA : A = some ⟨g, 0, none⟩ := by injection hv
  subst hA
  refine ⟨g, 0, rfl, fun j u hu => ?_⟩
  have := h.cells (g := g) rfl j u hu
  rwa [add_plain, ← Nat.zero_add j] at this
theorem Rd.of_block {g o : Nat} {t : TypeId} {fz : Nat × Nat} {cs : Array Value} (hg : w.heap[g]? = some (.cells cs t fz)) (n : Nat) (ho : o + n ≤ cs.size) : Rd w (some ⟨g, o, none⟩) n ((cs.toList.drop o).take n) := by
  refine ⟨by rw [List.length_take, List.length_drop, Array.length_toList]; omega, fun _ => ⟨g, o, rfl, fun j u hu => ?_⟩⟩
  refine blk_cell hg ?_
  rcases Nat.lt_or_ge j n with hj | hj
  · rw [List.getElem?_take_of_lt hj, List.getElem?_drop] at hu
    rw [← Array.getElem?_toList]; exact hu
  · rw [List.getElem?_eq_none (by rw [List.length_take]; omega)] at hu; cases hu
theorem Rd.of_block0 {g : Nat} {t : TypeId} {fz : Nat × Nat} {xs : List Value} (hg : w.heap[g]? = some (.cells xs.toArray t fz)) : Rd w (some ⟨g, 0, none⟩) xs.length xs := by
  have := Rd.of_block hg xs.length (o := 0) (by simp)
  simpa using this
end
/-- 'xs[m:]' without a case on the capacity: laid ahead of the walk. -/
theorem cut_run {P : Program} (t e : TypeId) (kl : IntKind) {i : TypeInfo} (ht : P.underlying t = some (.slice e)) (hi : P.info? e = some i) (hsz : i.size = 1) (A : Option Addr) (n c m : Nat) (hm : m ≤ n) :
    ∃ A' : Option Addr, (∀ W : World, (Instr.slice t (.slice A n c) (some (.int kl (m : Int))) none none).run P W = .ok (.slice A' (n - m) (c - m)) W) ∧
      ∀ (w : World) (xs : List Value), n ≤ c → Rd w A n xs → Rd w A' (n - m) (xs.drop m) := by
  refine ⟨if c = m then A else A.map (·.add m), fun W => ?_, fun w xs hc h => h.drop_ m hm hc⟩
  have hel : P.elem t = e := by simp [Program.elem, ht]
  have hu : P.underlying t = some (.slice (P.elem t)) := by rw [hel]; exact ht
  rw [run_slice_l W t A n c hu kl (m : Int) (Int.natCast_nonneg _) (by omega), hel]
  simp [sizeOf, typeInfo, hi, hsz, sliced, Result.andThen]

/-! ### append onto a row of the call's own, from whatever source -/
section
variable {P : Program} (w : World)
theorem run_app (base : Nat) (t ty e : TypeId) (z : Value) (bytes : Nat) (ht : P.underlying t = some (.slice e)) (hinfo : (P.info? e).map (fun i => (i.zero, i.size, i.bytes)) = some (some z, 1, bytes)) (hzs : z.cells.size = 1)
    (v : Value) (n : Nat) (xs : List Value) (hown : w.ownsRow base e 1 v n xs)
    (A : Option Addr) (m c : Nat) (news : List Value) (hr : Rd w A m news) (h1 : ∀ u ∈ news, u.oneCell' = true)
    (h63 : n + m ≤ maxLen) (hbytes : (n + m) * bytes ≤ 140737488355328) (hbase : base ≤ w.heap.size) :
    ∃ A' c' w', (Builtin.append_ #[t, t] ty #[v, .slice A m c]).run P w = .ok (.slice A' (n + m) c') w' ∧ w'.ownsRow base e 1 (.slice A' (n + m) c') (n + m) (xs ++ news) ∧ w.grownBy w' v.ownBlock ∧
      ((Value.slice A' (n + m) c').ownBlock = v.ownBlock ∨ (Value.slice A' (n + m) c').ownBlock = some w.heap.size) := by
  obtain ⟨i, hi, hz, hsize, hby⟩ : ∃ i, P.info? e = some i ∧ i.zero = some z ∧ i.size = 1 ∧ i.bytes = bytes := by
    cases h : P.info? e with
    | none => rw [h] at hinfo; cases hinfo
    | some i => rw [h] at hinfo; simp only [Option.map_some, Option.some.injEq, Prod.mk.injEq] at hinfo; exact ⟨i, rfl, hinfo.1, hinfo.2.1, hinfo.2.2⟩
  have fin : ∀ v' w', (Builtin.append_ #[t, t] ty #[v, .slice A m c]).run P w = .ok v' w' → w'.ownsRow base e 1 v' (n + m) (xs ++ news) → w.grownBy w' v.ownBlock → (v'.ownBlock = v.ownBlock ∨ v'.ownBlock = some w.heap.size) →
      ∃ A' c' w', (Builtin.append_ #[t, t] ty #[v, .slice A m c]).run P w = .ok (.slice A' (n + m) c') w' ∧ w'.ownsRow base e 1 (.slice A' (n + m) c') (n + m) (xs ++ news) ∧ w.grownBy w' v.ownBlock ∧
      ((Value.slice A' (n + m) c').ownBlock = v.ownBlock ∨ (Value.slice A' (n + m) c').ownBlock = some w.heap.size) := by
    intro v' w' h1 h2 h3 h4
    obtain ⟨A', c', rfl⟩ := own_slice h2
    exact ⟨A', c', w', h1, h2, h3, h4⟩
  rcases Nat.eq_zero_or_pos m with h0 | h0
  · subst h0
    have hn : news = [] := List.eq_nil_of_length_eq_zero hr.1
    subst hn
    rcases A with _ | ad
    · refine fin v w ?_ (by simpa using hown) (World.grownBy.refl w _) (.inl rfl)
      rcases hown.2 with ⟨rfl, rfl⟩ | ⟨g, cap, cur, rfl, _, _, hnc, _⟩
      · simp [Builtin.append_, run_underlying ht, sizeOf, typeInfo, hi, Builtin.lenOf, Builtin.firstCells]
      · simp [Builtin.append_, run_underlying ht, sizeOf, typeInfo, hi, Builtin.lenOf, Builtin.firstCells, hnc, storeCells]
    · obtain ⟨v', w', hrun, h2, h3, _, h5⟩ := run_append_own_at (P := P) w base t ty e i z 1 bytes ht hi hz hsize hby hzs (by omega) v n xs hown ad 0 c [] rfl (fun j u hu => by simp at hu) (fun u hu => by cases hu) h63 hbytes hbase
      exact fin v' w' hrun h2 h3 h5
  · obtain ⟨b, o, rfl, hc⟩ := hr.2 h0
    obtain ⟨v', w', hrun, h2, h3, _, h5⟩ := run_append_own_at (P := P) w base t ty e i z 1 bytes ht hi hz hsize hby hzs (by omega) v n xs hown ⟨b, o, none⟩ m c news (by rw [hr.1, Nat.mul_one])
      (fun j u hu => by rw [add_plain']; exact hc j u hu) h1 h63 hbytes hbase
    exact fin v' w' hrun h2 h3 h5

theorem wp_app {o : Oper} {a : Act} {K : Act → World → Prop} {Q : Exit → Act → World → Prop} (s x : Operand) (t : TypeId)
    (ho : o.op = .call { callee := .builtin .append, args := #[s, x], argTypes := #[t, t] })
    (base : Nat) (e : TypeId) (z : Value) (bytes : Nat) (ht : P.underlying t = some (.slice e)) (hinfo : (P.info? e).map (fun i => (i.zero, i.size, i.bytes)) = some (some z, 1, bytes)) (hzs : z.cells.size = 1)
    (v : Value) (n : Nat) (xs : List Value) (hs : a.eval s = v) (hown : w.ownsRow base e 1 v n xs)
    (A : Option Addr) (m c : Nat) (news : List Value) (hx : a.eval x = .slice A m c) (hr : Rd w A m news) (h1 : ∀ u ∈ news, u.oneCell' = true)
    (h63 : n + m ≤ maxLen) (hbytes : (n + m) * bytes ≤ 140737488355328) (hbase : base ≤ w.heap.size)
    (h : ∀ A' c' w', w'.ownsRow base e 1 (.slice A' (n + m) c') (n + m) (xs ++ news) → w.grownBy w' v.ownBlock → ((Value.slice A' (n + m) c').ownBlock = v.ownBlock ∨ (Value.slice A' (n + m) c').ownBlock = some w.heap.size) → K (a.put o.dst (.slice A' (n + m) c')) w') : o.wp P a w K Q := by
  obtain ⟨A', c', w', hrun, h2, h3, h4⟩ := run_app (P := P) w base t o.type e z bytes ht hinfo hzs v n xs hown A m c news hr h1 h63 hbytes hbase
  unfold Oper.wp execOp
  simp only [ho, resolve, invoke, builtin, Sem.run_bind, Sem.run_pure, Result.andThen_ok, List.map_toArray, List.map_cons, List.map_nil, hs, hx, hrun]
  exact h A' c' w' h2 h3 h4

theorem wpList_app {ops : Array Oper} {rest : List Oper} {o : Oper} {a : Act} {Q : Exit → Act → World → Prop} (hgd : o.guard = none) (s x : Operand) (t : TypeId)
    (ho : o.op = .call { callee := .builtin .append, args := #[s, x], argTypes := #[t, t] })
    (base : Nat) (e : TypeId) (z : Value) (bytes : Nat) (ht : P.underlying t = some (.slice e)) (hinfo : (P.info? e).map (fun i => (i.zero, i.size, i.bytes)) = some (some z, 1, bytes)) (hzs : z.cells.size = 1)
    (v : Value) (n : Nat) (xs : List Value) (hs : a.eval s = v) (hown : w.ownsRow base e 1 v n xs)
    (A : Option Addr) (m c : Nat) (news : List Value) (hx : a.eval x = .slice A m c) (hr : Rd w A m news) (h1 : ∀ u ∈ news, u.oneCell' = true)
    (h63 : n + m ≤ maxLen) (hbytes : (n + m) * bytes ≤ 140737488355328) (hbase : base ≤ w.heap.size)
    (h : ∀ A' c' w', w'.ownsRow base e 1 (.slice A' (n + m) c') (n + m) (xs ++ news) → w.grownBy w' v.ownBlock → ((Value.slice A' (n + m) c').ownBlock = v.ownBlock ∨ (Value.slice A' (n + m) c').ownBlock = some w.heap.size) → wpList P ops Q rest (a.put o.dst (.slice A' (n + m) c')) w') : wpList P ops Q (o :: rest) a w :=
  wpList_plain hgd fun _ hK => wp_app w s x t ho base e z bytes ht hinfo hzs v n xs hs hown A m c news hx hr h1 h63 hbytes hbase fun A' c' w' h2 h3 h4 => hK _ _ (h A' c' w' h2 h3 h4)

theorem step_app {ops : Array Oper} {o : Oper} {a : Act} {K : Act → World → Prop} {Q : Exit → Act → World → Prop} {E : Prop} (hgd : o.guard = none) (s x : Operand) (t : TypeId)
    (ho : o.op = .call { callee := .builtin .append, args := #[s, x], argTypes := #[t, t] })
    (base : Nat) (e : TypeId) (z : Value) (bytes : Nat) (ht : P.underlying t = some (.slice e)) (hinfo : (P.info? e).map (fun i => (i.zero, i.size, i.bytes)) = some (some z, 1, bytes)) (hzs : z.cells.size = 1)
    (v : Value) (n : Nat) (xs : List Value) (hs : a.eval s = v) (hown : w.ownsRow base e 1 v n xs)
    (A : Option Addr) (m c : Nat) (news : List Value) (hx : a.eval x = .slice A m c) (hr : Rd w A m news) (h1 : ∀ u ∈ news, u.oneCell' = true)
    (h63 : n + m ≤ maxLen) (hbytes : (n + m) * bytes ≤ 140737488355328) (hbase : base ≤ w.heap.size)
    (h : ∀ A' c' w', w'.ownsRow base e 1 (.slice A' (n + m) c') (n + m) (xs ++ news) → w.grownBy w' v.ownBlock → ((Value.slice A' (n + m) c').ownBlock = v.ownBlock ∨ (Value.slice A' (n + m) c').ownBlock = some w.heap.size) → K (a.put o.dst (.slice A' (n + m) c')) w') :
    if Region.wanted o (yielded ops a.tmps) = true then Oper.wp P o a w K Q else E := by
  have hw : Region.wanted o (yielded ops a.tmps) = true := by simp [Region.wanted, hgd]
  rw [if_pos hw]
  exact wp_app w s x t ho base e z bytes ht hinfo hzs v n xs hs hown A m c news hx hr h1 h63 hbytes hbase h
end

/-! ### quiet calls whose contract says 'w = w'' -/
theorem quiet_left {P : Program} {f : FuncId} {args : Array Value} {w : World} {n : Nat} {v : Value}
    (h : Calls P f args (w.drewN n) fun e w' => e = .returned v ∧ w.drewN n = w') : Calls P f args (w.drewN n) fun e w'' => e = .returned v ∧ ∃ m, w'' = w.drewN m :=
  h.mono fun _ _ ⟨he, hm⟩ => ⟨he, n, hm.symm⟩
theorem quiet_add {P : Program} {f : FuncId} {args : Array Value} {w : World} {a n : Nat} {v : Value}
    (h : Calls P f args (w.drewN (a + n)) fun e w' => e = .returned v ∧ ∃ m, w' = (w.drewN (a + n)).drewN m) :
    Calls P f args (w.drewN (a + n)) fun e w'' => e = .returned v ∧ ∃ m, w'' = w.drewN (a + m) :=
  h.mono fun _ _ ⟨he, m, hm⟩ => ⟨he, n + m, by rw [hm, World.drewN_drewN, Nat.add_assoc]⟩
theorem quiet_add_left {P : Program} {f : FuncId} {args : Array Value} {w : World} {a n : Nat} {v : Value}
    (h : Calls P f args (w.drewN (a + n)) fun e w' => e = .returned v ∧ w.drewN (a + n) = w') :
    Calls P f args (w.drewN (a + n)) fun e w'' => e = .returned v ∧ ∃ m, w'' = w.drewN (a + m) :=
  h.mono fun _ _ ⟨he, hm⟩ => ⟨he, n, hm.symm⟩
theorem quiet_sub {P : Program} {f : FuncId} {args : Array Value} {w : World} {n : Nat} {v : Value}
    (h : Calls P f args (w.drewN n) fun e w' => e = .returned v ∧ ∃ m, w' = (w.drewN n).drewN m) : Calls P f args (w.drewN n) fun e w'' => e = .returned v ∧ ∃ m, w'' = w.drewN m := Calls.quiet_of h

/-! ### results that lie in cells -/
theorem results_cell_tmp {P : Program} {fn : Func} {p q : Tmp} {ty : TypeId} (h : fn.results = #[.cell p ty, .tmp q]) (tmps : Array Value) (w : World) (g : Nat) (t : TypeId) (cs : Array Value) (fr : Nat × Nat) (d : TypeDesc)
    (hp : tmps.getD p undef = .pointer (some ⟨g, 0, none⟩)) (hg : w.heap[g]? = some (.cells cs t fr))
    (hu : P.underlying ty = some d) (hd : (match d with | .struct _ | .array _ _ => true | _ => false) = true) (hi : (P.info? ty).map (·.size) = some cs.size) :
    (results fn tmps).run P w = .ok (.tuple #[.agg cs, tmps.getD q undef]) w := by
  have hp' : tmps[p]?.getD undef = .pointer (some ⟨g, 0, none⟩) := by simpa using hp
  simp [results, h, hp', asAddr, run_loadVar_row w g t ty cs fr d hg hu hd hi]

/-! ### an array stored whole -/
section
variable {P : Program}
theorem below_setRow' {B g : Nat} {w0 w : World} (hb : Below B w0 w) (hBg : B ≤ g) (cs : Array Value) : Below B w0 (w.setRow g cs) :=
  hb.trans ⟨rfl, rfl, rfl, by simp [World.setRow], fun k hk => setRow_other w g k cs (by omega)⟩
theorem grown_setRow (w : World) (g : Nat) (cs : Array Value) : w.grownBy (w.setRow g cs) (some g) :=
  ⟨rfl, rfl, rfl, by simp [World.setRow], fun k _ hne => setRow_other w g k cs (fun e => hne (by rw [e]))⟩
/-- The world is as it was, but for block g. -/
structure Turned (w : World) (g : Nat) (w' : World) : Prop where
  os : w'.os = w.os
  tape : w'.tape = w.tape
  output : w'.output = w.output
  size : w'.heap.size = w.heap.size
  block : ∀ k, k ≠ g → w'.heap[k]? = w.heap[k]?
theorem Turned.keep {w w' : World} {g k : Nat} {o : Obj} (h : Turned w g w') (hk : w.heap[k]? = some o) (hne : k ≠ g) : w'.heap[k]? = some o := (h.block k hne).trans hk
theorem Turned.below {w0 w w' : World} {g B : Nat} (h : Turned w g w') (hb : Below B w0 w) (hg : B ≤ g) : Below B w0 w' :=
  hb.trans ⟨h.os, h.tape, h.output, by rw [h.size]; exact Nat.le_refl _, fun k hk => h.block k (by omega)⟩
theorem Turned.grown {w w' : World} {g : Nat} (h : Turned w g w') : w.grownBy w' (some g) :=
  ⟨h.os, h.tape, h.output, by rw [h.size]; exact Nat.le_refl _, fun k _ hne => h.block k (fun e => hne (by rw [e]))⟩
theorem turned_setRow (w : World) (g : Nat) (cs : Array Value) : Turned w g (w.setRow g cs) :=
  ⟨rfl, rfl, rfl, by simp [World.setRow], fun k hk => setRow_other w g k cs hk⟩
theorem turned_setCell (w : World) (g i : Nat) (u : Value) : Turned w g (w.setCell ⟨g, i, none⟩ u) :=
  ⟨rfl, rfl, rfl, by simp [World.setCell], fun k hk => Below.heap_setCell w _ u k hk⟩
theorem wpList_store_any {P : Program} {ops : Array Oper} {rest : List Oper} {o : Oper} {a : Act} {w : World} {Q : Exit → Act → World → Prop} (hgd : o.guard = none) (ty : TypeId) (x y : Operand) (ho : o.op = .store ty x y)
    (g : Nat) (cells : Array Value) (hx : a.eval x = .pointer (some ⟨g, 0, none⟩)) (hy : a.eval y = .agg cells)
    (t : TypeId) (old : Array Value) (hg : w.heap[g]? = some (.cells old t (0, 0))) (hi : (P.info? ty).map (·.size) = some cells.size)
    (hold : old.size = cells.size) (h1 : cells.all (·.oneCell') = true)
    (h : ∀ w', w'.heap[g]? = some (.cells cells t (0, 0)) → Turned w g w' → wpList P ops Q rest (a.put o.dst undef) w') : wpList P ops Q (o :: rest) a w :=
  wpList_store_row hgd ty x y ho g cells hx hy t old hg hi hold h1 (h _ (setRow_heap w g old cells t _ hg) (turned_setRow w g cells))
/-- A guarded operation that is wanted. -/
theorem wpList_want {P : Program} {ops : Array Oper} {rest : List Oper} {o : Oper} {a : Act} {w : World} {Q : Exit → Act → World → Prop} (hw : Region.wanted o (yielded ops a.tmps) = true)
    (h : ∀ K : Act → World → Prop, (∀ a w, wpList P ops Q rest a w → K a w) → o.wp P a w K Q) : wpList P ops Q (o :: rest) a w :=
  wpList_step fun K hK => by rw [if_pos hw]; exact h K hK
theorem wpList_load_rowG {P : Program} {ops : Array Oper} {rest : List Oper} {o : Oper} {a : Act} {w : World} {Q : Exit → Act → World → Prop} (hw : Region.wanted o (yielded ops a.tmps) = true) (ty : TypeId) (x : Operand) (ho : o.op = .load ty x)
    (g : Nat) (hx : a.eval x = .pointer (some ⟨g, 0, none⟩)) (t : TypeId) (cs : Array Value) (fr : Nat × Nat) (d : TypeDesc) (hg : w.heap[g]? = some (.cells cs t fr))
    (hu : P.underlying ty = some d) (hd : (match d with | .struct _ | .array _ _ => true | _ => false) = true) (hi : (P.info? ty).map (·.size) = some cs.size)
    (h : wpList P ops Q rest (a.put o.dst (.agg cs)) w) : wpList P ops Q (o :: rest) a w :=
  wpList_want hw fun _ hK => wp_load_row ty x ho g hx t cs fr d hg hu hd hi (hK _ _ h)
theorem nums_all (k : IntKind) (xs : List Int) : (nums k xs).toArray.all (·.oneCell') = true := by
  rw [Array.all_eq_true']; intro u hu; exact nums_one k xs u (by simpa using hu)
end

/-! ### strings -/
theorem conv_rd {P : Program} {w : World} {n c : Nat} {src dst e : TypeId} {A : Option Addr} {xs : List Int} (hs : P.underlying src = some (.slice e)) (he : P.underlying e = some (.int .u8)) (hd : P.underlying dst = some .string)
    (h : Rd w A n (nums .u8 xs)) : (convert src dst (.slice A n c)).run P w = .ok (.string (strOfNums xs)) w := by
  have hl : xs.length = n := by have := h.1; rwa [nums_length] at this
  rcases Nat.eq_zero_or_pos n with h0 | h0
  · subst h0
    obtain rfl : xs = [] := List.eq_nil_of_length_eq_zero hl
    rcases A with _ | ⟨b, o, s⟩
    · exact run_convert_bytes_nil w src e hs he 0 c dst hd
    · rw [run_convert_bytes_string w src dst e _ 0 c hs he hd]
      simp [Conv.bytesToString, loadCells, loadCellsFrom]
      rfl
  · obtain ⟨b, o, rfl, hc⟩ := h.addr h0
    exact run_convert_bytes_arg w src e hs he b o n c xs hl hc dst hd
theorem own_string {P : Program} {w : World} {base n : Nat} {e' src dst e : TypeId} {v : Value} {xs : List Int} (hs : P.underlying src = some (.slice e)) (he : P.underlying e = some (.int .u8)) (hd : P.underlying dst = some .string)
    (h : w.ownsRow base e' 1 v n (nums .u8 xs)) : (convert src dst v).run P w = .ok (.string (strOfNums xs)) w := by
  obtain ⟨A, c, rfl⟩ := own_slice h
  exact conv_rd hs he hd (Rd.of_own h)
theorem strOf_toList (xs : List Int) : (strOfNums xs).data.toList = xs.map fun n => UInt8.ofNat n.toNat := rfl
theorem run_index_str (P : Program) (T : TypeId) (hT : P.underlying T = some .string) (s : ByteArray) (k : IntKind) (i : Nat) (h : i < s.size) (w : World) : (Instr.index T (.string s) (.int k (i : Int))).run P w = .ok (.int .u8 (s[i].toNat : Int)) w := by
  have hb : s[i]? = some s[i] := by simp [h]
  simp [Instr.index, asIntOf, run_underlying hT, hb]
/-- The byte at a place of a string, as a number. -/
def bt (s : ByteArray) (i : Nat) : Int := rd (s.data.toList.map fun b => (b.toNat : Int)) i
def bytesOf (s : ByteArray) : List Int := s.data.toList.map fun b => (b.toNat : Int)
theorem data_length (s : ByteArray) : s.data.toList.length = s.size := by rw [Array.length_toList]; rfl
theorem bytesOf_length (s : ByteArray) : (bytesOf s).length = s.size := by rw [bytesOf, List.length_map, data_length]
theorem bytesOf_bytes (s : ByteArray) : Bytes (bytesOf s) := by
  intro x hx
  simp only [bytesOf, List.mem_map] at hx
  obtain ⟨b, _, rfl⟩ := hx
  have := b.toNat_lt
  omega
theorem bt_eq (s : ByteArray) (i : Nat) : bt s i = rd (bytesOf s) i := rfl
theorem bt_range (s : ByteArray) (i : Nat) : 0 ≤ bt s i ∧ bt s i ≤ 255 := (bytesOf_bytes s).rd i
theorem bt_at (s : ByteArray) (i : Nat) (h : i < s.size) : ((s[i].toNat : Nat) : Int) = bt s i := by
  have h' : i < s.data.toList.length := by rw [data_length]; exact h
  unfold bt rd
  simp [List.getD_eq_getElem?_getD, List.getElem?_eq_getElem h']
  rfl
theorem run_index_bt (P : Program) (T : TypeId) (hT : P.underlying T = some .string) (s : ByteArray) (k : IntKind) (i : Nat) (h : i < s.size) (w : World) : (Instr.index T (.string s) (.int k (i : Int))).run P w = .ok (.int .u8 (bt s i)) w := by
  rw [run_index_str P T hT s k i h w, bt_at s i h]
theorem strOf_bytesOf (s : ByteArray) : strOfNums (bytesOf s) = s := by
  obtain ⟨⟨l⟩⟩ := s
  simp only [strOfNums, bytesOf, List.map_map]
  congr
  conv => rhs; rw [← List.map_id l]
  apply List.map_congr_left
  intro b _
  simp
theorem bytesOf_strOf (xs : List Int) (h : Bytes xs) : bytesOf (strOfNums xs) = xs := by
  simp only [strOfNums, bytesOf, List.map_map]
  conv => rhs; rw [← List.map_id xs]
  apply List.map_congr_left
  intro x hx
  have := h x hx
  simp only [Function.comp, id]
  rw [UInt8.toNat_ofNat_of_lt' (by simp only [UInt8.size]; omega)]
  omega
theorem strOfNums_inj {xs ys : List Int} (h : Bytes xs) (k : Bytes ys) (e : strOfNums xs = strOfNums ys) : xs = ys := by
  rw [← bytesOf_strOf xs h, ← bytesOf_strOf ys k, e]
def signs : ByteArray := ⟨#[48, 49, 50, 51, 52, 53, 54, 55, 56, 57, 97, 98, 99, 100, 101, 102]⟩
def sg (x : Int) : Int := if x < 10 then 48 + x else 87 + x
theorem run_signs (P : Program) (T : TypeId) (hT : P.underlying T = some .string) (k : IntKind) (x : Int) (h0 : 0 ≤ x) (h1 : x < 16) (w : World) : (Instr.index T (.string ⟨#[48, 49, 50, 51, 52, 53, 54, 55, 56, 57, 97, 98, 99, 100, 101, 102]⟩) (.int k x)).run P w = .ok (.int .u8 (sg x)) w := by
  obtain ⟨n, rfl⟩ := Int.eq_ofNat_of_zero_le h0
  have hn : n < 16 := by omega
  have key : ∃ b : UInt8, (ByteArray.mk #[48, 49, 50, 51, 52, 53, 54, 55, 56, 57, 97, 98, 99, 100, 101, 102])[n]? = some b ∧ (b.toNat : Int) = sg n := by
    match n, hn with
    | 0, _ | 1, _ | 2, _ | 3, _ | 4, _ | 5, _ | 6, _ | 7, _ | 8, _ | 9, _ | 10, _ | 11, _ | 12, _ | 13, _ | 14, _ | 15, _ => exact ⟨_, rfl, by decide⟩
  obtain ⟨b, hb, he⟩ := key
  simp [Instr.index, asIntOf, run_underlying hT, hb, he]
theorem strOf_append (xs ys : List Int) : strOfNums xs ++ strOfNums ys = strOfNums (xs ++ ys) := by
  apply ByteArray.ext
  simp [strOfNums, ByteArray.data_append]
theorem run_add_nums {P : Program} (xs ys : List Int) (h : xs.length + ys.length ≤ 9223372036854775807) (W : World) : (Op.stringOp .add (strOfNums xs) (strOfNums ys)).run P W = .ok (.string (strOfNums (xs ++ ys))) W := by
  rw [run_string_add_sum W _ _ (by rw [strOfNums_size, strOfNums_size]; exact h), strOf_append]
theorem run_sign_cut (P : Program) (T : TypeId) (hT : P.underlying T = some .string) (x : Int) (h0 : 0 ≤ x) (h1 : x < 16) (w : World) :
    (Instr.slice T (.string ⟨#[48, 49, 50, 51, 52, 53, 54, 55, 56, 57, 97, 98, 99, 100, 101, 102]⟩) (some (.int .i64 x)) (some (.int .i64 (x + 1))) none).run P w = .ok (.string (strOfNums [sg x])) w := by
  obtain ⟨n, rfl⟩ := Int.eq_ofNat_of_zero_le h0
  have hn : n < 16 := by omega
  match n, hn with
  | 0, _ | 1, _ | 2, _ | 3, _ | 4, _ | 5, _ | 6, _ | 7, _ | 8, _ | 9, _ | 10, _ | 11, _ | 12, _ | 13, _ | 14, _ | 15, _ =>
    rw [run_slice_string w T _ .i64 .i64 _ _ hT (by decide) (by decide) (by decide)]
    exact congrArg (fun s => Result.ok (Value.string s) w) (by decide)

/-! ### arrays of whole numbers compared -/
theorem all_range_rd : ∀ (xs ys : List Int), xs.length = ys.length → ((List.range xs.length).all fun i => rd xs i == rd ys i) = (xs == ys)
  | [], [], _ => rfl
  | x :: xs, y :: ys, h => by
    have ih := all_range_rd xs ys (by simpa using h)
    rw [List.length_cons, List.range_succ_eq_map, List.all_cons, List.all_map]
    simp only [rd, List.getD_cons_zero, Function.comp_def, List.getD_cons_succ] at ih ⊢
    rw [ih]
    simp [List.cons_beq_cons]
  | [], _ :: _, h => by simp at h
  | _ :: _, [], h => by simp at h
section
variable {P : Program} (w : World)
theorem run_equalIn_nums (d : Nat) (t e : TypeId) (n : Nat) (k k' : IntKind) (ht : P.underlying t = some (.array n e)) (he : P.underlying e = some (.int k')) (hsz : (P.info? e).map (·.size) = some 1)
    (xs ys : List Int) (hx : xs.length = n) (hy : ys.length = n) :
    (Op.equalIn (d + 2) t (.agg (nums k xs).toArray) (.agg (nums k ys).toArray)).run P w = .ok (xs == ys) w := by
  have hsz : ∀ w, (sizeOf e).run P w = .ok 1 w := by
    intro w
    cases h : P.info? e with
    | none => rw [h] at hsz; cases hsz
    | some i => rw [h] at hsz; simp only [Option.map_some, Option.some.injEq] at hsz; simp [sizeOf, typeInfo, h, hsz]
  rw [← all_range_rd xs ys (hx.trans hy.symm), hx, List.range_eq_range', Op.equalIn]
  simp only [Sem.run_bind, run_underlying ht, Result.andThen_ok, hsz, Std.Legacy.Range.forIn_eq_forIn_range', Std.Legacy.Range.size, Nat.sub_zero, Nat.add_sub_cancel, Nat.div_one]
  have hl : ∀ i ∈ List.range' 0 n 1, i < n := fun i hi => by simpa using (List.mem_range'_1.1 hi).2
  generalize List.range' 0 n 1 = l at hl ⊢
  induction l with
  | nil => simp
  | cons i l ih =>
    have hi : i < n := hl i (by simp)
    have px : (part e (nums k xs).toArray (i * 1)).run P w = .ok (.int k (rd xs i)) w := by
      have := nums_get k xs i (by omega)
      simp [part, isAgg, run_underlying he, this]
    have py : (part e (nums k ys).toArray (i * 1)).run P w = .ok (.int k (rd ys i)) w := by
      have := nums_get k ys i (by omega)
      simp [part, isAgg, run_underlying he, this]
    have pe : (Op.equalIn (d + 1) e (.int k (rd xs i)) (.int k (rd ys i))).run P w = .ok (rd xs i == rd ys i) w := run_equalIn_int w d e k k' _ _ he
    simp only [List.forIn_cons, Sem.run_bind, px, py, pe, Result.andThen_ok, List.all_cons]
    cases hb : (rd xs i == rd ys i)
    · simp
    · simp only [Bool.not_true, Bool.false_eq_true, if_false, Sem.run_pure, Result.andThen_ok, Bool.true_and]
      exact ih fun j hj => hl j (by simp [hj])
theorem run_eql_nums (t e : TypeId) (n : Nat) (k k' : IntKind) (ht : P.underlying t = some (.array n e)) (he : P.underlying e = some (.int k')) (hsz : (P.info? e).map (·.size) = some 1)
    (xs ys : List Int) (hx : xs.length = n) (hy : ys.length = n) :
    (binOp .eql t (.agg (nums k xs).toArray) (.agg (nums k ys).toArray)).run P w = .ok (.bool (xs == ys)) w := by
  rw [run_eql_struct, run_equalIn_nums w 9998 t e n k k' ht he hsz xs ys hx hy]
  rfl
theorem run_neq_nums (t e : TypeId) (n : Nat) (k k' : IntKind) (ht : P.underlying t = some (.array n e)) (he : P.underlying e = some (.int k')) (hsz : (P.info? e).map (·.size) = some 1)
    (xs ys : List Int) (hx : xs.length = n) (hy : ys.length = n) :
    (binOp .neq t (.agg (nums k xs).toArray) (.agg (nums k ys).toArray)).run P w = .ok (.bool (!(xs == ys))) w := by
  rw [run_neq_struct, run_equalIn_nums w 9998 t e n k k' ht he hsz xs ys hx hy]
  rfl
end
end Go.Proofs.YtclkgflficlmiaaDoor
end

/-! ## Kinds -/
section
set_option linter.unusedVariables false
namespace Go.Proofs.YtclkgflficlmiaaDoor
open Go Go.ChangeShapes Go.WideShapes Go.ChangeAt Go.RowKit
structure RK (α : Type) where
  sz : Nat
  K : (Nat → Prop) → World → α → List Value → Prop
  len : ∀ {S w x cs}, K S w x cs → cs.length = sz
  one : ∀ {S w x cs}, K S w x cs → ∀ u ∈ cs, u.oneCell' = true
  move : ∀ {S : Nat → Prop} {w w1 : World} {x cs}, (∀ k, S k → k < w.heap.size → w1.heap[k]? = w.heap[k]?) → K S w x cs → K S w1 x cs
  mono : ∀ {S S' : Nat → Prop} {w x cs}, (∀ k, S k → S' k) → K S w x cs → K S' w x cs
/-- A slice (its address A, its length n) that reads as xs. -/
def RK.C {α : Type} (d : RK α) (S : Nat → Prop) (w : World) (A : Option Addr) (n : Nat) (xs : List α) : Prop :=
  xs.length = n ∧ (0 < n → ∃ b o, A = some ⟨b, o, none⟩ ∧ S b ∧ b < w.heap.size ∧ ∀ i x, xs[i]? = some x → ∃ cs, d.K S w x cs ∧ ∀ j v, cs[j]? = some v → w.cell? ⟨b, o + i * d.sz + j, none⟩ = some v)
theorem cell_move {w w1 : World} {b i : Nat} (h : w1.heap[b]? = w.heap[b]?) : w1.cell? ⟨b, i, none⟩ = w.cell? ⟨b, i, none⟩ := by
  simp only [World.cell?, h]
namespace RK
section
variable {α : Type} {d : RK α} {S S' : Nat → Prop} {w w1 : World} {A : Option Addr} {n : Nat} {xs : List α}
theorem C.move (h : d.C S w A n xs) (hm : ∀ k, S k → k < w.heap.size → w1.heap[k]? = w.heap[k]?) : d.C S w1 A n xs := by
  refine ⟨h.1, fun hn => ?_⟩
  obtain ⟨b, o, hA, hS, hb, hc⟩ := h.2 hn
  have hbb := hm b hS hb
  refine ⟨b, o, hA, hS, ?_, fun i x hx => ?_⟩
  · have h2 : b < w.heap.size := hb
    have h3 : w.heap[b]? = some w.heap[b] := Array.getElem?_eq_getElem h2
    rw [h3] at hbb
    exact (Array.getElem?_eq_some_iff.1 hbb).1
  · obtain ⟨cs, hK, hcs⟩ := hc i x hx
    exact ⟨cs, d.move hm hK, fun j v hv => (cell_move hbb).trans (hcs j v hv)⟩
theorem C.mono (h : d.C S w A n xs) (hm : ∀ k, S k → S' k) : d.C S' w A n xs := by
  refine ⟨h.1, fun hn => ?_⟩
  obtain ⟨b, o, hA, hS, hb, hc⟩ := h.2 hn
  exact ⟨b, o, hA, hm _ hS, hb, fun i x hx => by obtain ⟨cs, hK, hcs⟩ := hc i x hx; exact ⟨cs, d.mono hm hK, hcs⟩⟩
theorem C.nil (d : RK α) (S : Nat → Prop) (w : World) (A : Option Addr) : d.C S w A 0 [] := ⟨rfl, fun h => absurd h (by omega)⟩
theorem C.len (h : d.C S w A n xs) : xs.length = n := h.1
/-- Element i: where it lies, and its cells. -/
theorem C.get (h : d.C S w A n xs) (i : Nat) (hi : i < n) : ∃ b o cs x, A = some ⟨b, o, none⟩ ∧ xs[i]? = some x ∧ d.K S w x cs ∧ ∀ j v, cs[j]? = some v → w.cell? ⟨b, o + i * d.sz + j, none⟩ = some v := by
  obtain ⟨b, o, hA, hS, hb, hc⟩ := h.2 (by omega)
  have hx : xs[i]? = some (xs[i]'(by rw [h.1]; exact hi)) := List.getElem?_eq_getElem _
  obtain ⟨cs, hK, hcs⟩ := hc i _ hx
  exact ⟨b, o, cs, _, hA, hx, hK, hcs⟩
theorem C.addr (h : d.C S w A n xs) (hn : 0 < n) : ∃ b o, A = some ⟨b, o, none⟩ ∧ S b ∧ b < w.heap.size := by
  obtain ⟨b, o, hA, hS, hb, _⟩ := h.2 hn
  exact ⟨b, o, hA, hS, hb⟩
theorem C.take_ (h : d.C S w A n xs) (m : Nat) (hm : m ≤ n) : d.C S w A m (xs.take m) := by
  refine ⟨by rw [List.length_take, h.1]; omega, fun hn => ?_⟩
  obtain ⟨b, o, hA, hS, hb, hc⟩ := h.2 (by omega)
  refine ⟨b, o, hA, hS, hb, fun i x hx => hc i x ?_⟩
  rw [List.getElem?_take] at hx
  split at hx
  · exact hx
  · cases hx
theorem C.drop_ (h : d.C S w A n xs) (m c : Nat) (hm : m ≤ n) (hc : n ≤ c) : d.C S w (if c = m then A else A.map (·.add (m * d.sz))) (n - m) (xs.drop m) := by
  refine ⟨by rw [List.length_drop, h.1], fun hn => ?_⟩
  obtain ⟨b, o, hA, hS, hb, hcs⟩ := h.2 (by omega)
  refine ⟨b, o + m * d.sz, by rw [if_neg (by omega), hA, Option.map_some, add_plain'], hS, hb, fun i x hx => ?_⟩
  rw [List.getElem?_drop] at hx
  obtain ⟨cs, hK, hcs⟩ := hcs _ x hx
  refine ⟨cs, hK, fun j v hv => ?_⟩
  rw [show o + m * d.sz + i * d.sz + j = o + (m + i) * d.sz + j by rw [Nat.add_mul]; omega]
  exact hcs j v hv
end
/-! ### the kinds -/
def int (k : IntKind) : RK Int where
  sz := 1
  K := fun _ _ x cs => cs = [.int k x] ∧ k.min ≤ x ∧ x ≤ k.max
  len := fun h => by rw [h.1]; rfl
  one := fun h u hu => by rw [h.1] at hu; rw [List.mem_singleton.1 hu]; rfl
  move := fun _ h => h
  mono := fun _ h => h
def bool : RK Bool where
  sz := 1
  K := fun _ _ x cs => cs = [.bool x]
  len := fun h => by rw [h]; rfl
  one := fun h u hu => by rw [h] at hu; rw [List.mem_singleton.1 hu]; rfl
  move := fun _ h => h
  mono := fun _ h => h
def str : RK ByteArray where
  sz := 1
  K := fun _ _ x cs => cs = [.string x] ∧ x.size ≤ maxLen
  len := fun h => by rw [h.1]; rfl
  one := fun h u hu => by rw [h.1] at hu; rw [List.mem_singleton.1 hu]; rfl
  move := fun _ h => h
  mono := fun _ h => h
/-- An array of n bytes. -/
def hash (n : Nat) : RK (List Int) where
  sz := n
  K := fun _ _ x cs => cs = nums .u8 x ∧ x.length = n ∧ Bytes x
  len := fun h => by rw [h.1, nums_length]; exact h.2.1
  one := fun h u hu => by rw [h.1] at hu; exact nums_one _ _ u hu
  move := fun _ h => h
  mono := fun _ h => h
def slice {α : Type} (d : RK α) : RK (List α) where
  sz := 1
  K := fun S w xs cs => ∃ A n c, cs = [.slice A n c] ∧ n ≤ c ∧ c ≤ maxLen ∧ d.C S w A n xs
  len := by
    rintro S w x cs ⟨A, n, c, rfl, _⟩
    rfl
  one := by
    rintro S w x cs ⟨A, n, c, rfl, _⟩ u hu
    rw [List.mem_singleton.1 hu]
    rfl
  move := by
    rintro S w w1 x cs hm ⟨A, n, c, h1, h2, h3, h4⟩
    exact ⟨A, n, c, h1, h2, h3, C.move h4 hm⟩
  mono := by
    rintro S S' w x cs hm ⟨A, n, c, h1, h2, h3, h4⟩
    exact ⟨A, n, c, h1, h2, h3, C.mono h4 hm⟩
def pair {α β : Type} (a : RK α) (b : RK β) : RK (α × β) where
  sz := a.sz + b.sz
  K := fun S w x cs => ∃ c0 c1, cs = c0 ++ c1 ∧ a.K S w x.1 c0 ∧ b.K S w x.2 c1
  len := by
    rintro S w x cs ⟨c0, c1, rfl, h0, h1⟩
    rw [List.length_append, a.len h0, b.len h1]
  one := by
    rintro S w x cs ⟨c0, c1, rfl, h0, h1⟩ u hu
    rcases List.mem_append.1 hu with hu | hu
    · exact a.one h0 u hu
    · exact b.one h1 u hu
  move := by
    rintro S w w1 x cs hm ⟨c0, c1, rfl, h0, h1⟩
    exact ⟨c0, c1, rfl, a.move hm h0, b.move hm h1⟩
  mono := by
    rintro S S' w x cs hm ⟨c0, c1, rfl, h0, h1⟩
    exact ⟨c0, c1, rfl, a.mono hm h0, b.mono hm h1⟩
def iso {α β : Type} (d : RK α) (f : β → α) : RK β where
  sz := d.sz
  K := fun S w x cs => d.K S w (f x) cs
  len := d.len
  one := d.one
  move := d.move
  mono := d.mono
theorem C.below {α : Type} {d : RK α} {S : Nat → Prop} {w w1 : World} {A : Option Addr} {n : Nat} {xs : List α} (h : d.C S w A n xs) (hb : Below w.heap.size w w1) : d.C S w1 A n xs := h.move fun k _ hk => hb.block k hk
theorem K_below {α : Type} {d : RK α} {S : Nat → Prop} {w w1 : World} {x : α} {cs : List Value} (h : d.K S w x cs) (hb : Below w.heap.size w w1) : d.K S w1 x cs := d.move (fun k _ hk => hb.block k hk) h
/-- Rows of one-celled values read as lists of cells. -/
theorem C.rd_int {k : IntKind} {S : Nat → Prop} {w : World} {A : Option Addr} {n : Nat} {xs : List Int} (h : (int k).C S w A n xs) : Rd w A n (nums k xs) := by
  refine ⟨by rw [nums_length]; exact h.1, fun hn => ?_⟩
  obtain ⟨b, o, hA, _, _, hc⟩ := h.2 hn
  refine ⟨b, o, hA, fun j u hu => ?_⟩
  have hj : j < xs.length := by have := (List.getElem?_eq_some_iff.1 hu).1; rwa [nums_length] at this
  have hx : xs[j]? = some xs[j] := List.getElem?_eq_getElem hj
  obtain ⟨cs, hK, hcs⟩ := hc j _ hx
  rw [hK.1] at hcs
  have := hcs 0 _ rfl
  simp only [nums, List.getElem?_map, hx, Option.map_some, Option.some.injEq] at hu
  rw [← hu]
  simpa [int] using this
theorem C.range_int {k : IntKind} {S : Nat → Prop} {w : World} {A : Option Addr} {n : Nat} {xs : List Int} (h : (int k).C S w A n xs) : ∀ x ∈ xs, k.min ≤ x ∧ x ≤ k.max := by
  intro x hx
  obtain ⟨i, hi, rfl⟩ := List.mem_iff_getElem.1 hx
  obtain ⟨b, o, hA, _, _, hc⟩ := h.2 (by have := h.1; omega)
  obtain ⟨cs, hK, _⟩ := hc i _ (List.getElem?_eq_getElem hi)
  exact hK.2
theorem C.bytes {S : Nat → Prop} {w : World} {A : Option Addr} {n : Nat} {xs : List Int} (h : (int .u8).C S w A n xs) : Bytes xs := by
  intro x hx
  have := h.range_int x hx
  simpa [IntKind.min, IntKind.max, IntKind.signed, IntKind.bits] using this
theorem C.rd_str {S : Nat → Prop} {w : World} {A : Option Addr} {n : Nat} {xs : List ByteArray} (h : str.C S w A n xs) : Rd w A n (xs.map Value.string) := by
  refine ⟨by rw [List.length_map]; exact h.1, fun hn => ?_⟩
  obtain ⟨b, o, hA, _, _, hc⟩ := h.2 hn
  refine ⟨b, o, hA, fun j u hu => ?_⟩
  have hj : j < xs.length := by have := (List.getElem?_eq_some_iff.1 hu).1; rwa [List.length_map] at this
  have hx : xs[j]? = some xs[j] := List.getElem?_eq_getElem hj
  obtain ⟨cs, hK, hcs⟩ := hc j _ hx
  rw [hK.1] at hcs
  have := hcs 0 _ rfl
  simp only [List.getElem?_map, hx, Option.map_some, Option.some.injEq] at hu
  rw [← hu]
  simpa [str] using this
theorem C.all_str {S : Nat → Prop} {w : World} {A : Option Addr} {n : Nat} {xs : List ByteArray} (h : str.C S w A n xs) : ∀ x ∈ xs, x.size ≤ maxLen := by
  intro x hx
  obtain ⟨i, hi, rfl⟩ := List.mem_iff_getElem.1 hx
  obtain ⟨b, o, hA, _, _, hc⟩ := h.2 (by have := h.1; omega)
  obtain ⟨cs, hK, _⟩ := hc i _ (List.getElem?_eq_getElem hi)
  exact hK.2
end RK

/-! ### what came in is of a kind -/
section
variable {P : Program}
/-- Data of type t that can be read is of kind d. -/
def Came (P : Program) {α : Type} (t : TypeId) (d : RK α) : Prop := P.cellsOf t = d.sz ∧ 0 < d.sz ∧
  ∀ {H : Type} {enc : TypeId × Value → H} {W : World} {sp : Nat → Bool} {held : Bool} {fuel : Nat} {cs : List Value} {x : DataW H × List MemPlace}, DataW.trod enc P W 0 sp held fuel t cs = some x → ∃ a, d.K (· < W.heap.size) W a cs
theorem came_int {t : TypeId} {k : IntKind} (ht : P.underlying t = some (.int k)) (hc : P.cellsOf t = 1) : Came P t (RK.int k) := by
  refine ⟨hc, Nat.one_pos, fun h => ?_⟩
  obtain ⟨n, rfl, _, hw⟩ := DataW.trod_int ht h
  simp only [Lit.wf, Bool.and_eq_true, decide_eq_true_eq] at hw
  exact ⟨n, rfl, hw⟩
theorem came_bool {t : TypeId} (ht : P.underlying t = some .bool) (hc : P.cellsOf t = 1) : Came P t RK.bool := by
  refine ⟨hc, Nat.one_pos, fun h => ?_⟩
  obtain ⟨n, rfl, _⟩ := DataW.trod_bool ht h
  exact ⟨n, rfl⟩
theorem came_str {t : TypeId} (ht : P.underlying t = some .string) (hc : P.cellsOf t = 1) : Came P t RK.str := by
  refine ⟨hc, Nat.one_pos, fun h => ?_⟩
  obtain ⟨n, rfl, _, hs⟩ := DataW.trod_string ht h
  exact ⟨n, rfl, hs⟩
theorem list_of {α : Type} (n : Nat) {p : Nat → α → Prop} (h : ∀ i, i < n → ∃ a, p i a) : ∃ xs : List α, xs.length = n ∧ ∀ i x, xs[i]? = some x → p i x := by
  induction n with
  | zero => exact ⟨[], rfl, fun i x hx => by simp at hx⟩
  | succ n ih =>
    obtain ⟨xs, hl, hx⟩ := ih (fun i hi => h i (by omega))
    obtain ⟨a, ha⟩ := h n (by omega)
    refine ⟨xs ++ [a], by simp [hl], fun i x hi => ?_⟩
    rcases Nat.lt_or_ge i n with hlt | hge
    · rw [List.getElem?_append_left (by omega)] at hi
      exact hx i x hi
    · have hin : i < n + 1 := by have := (List.getElem?_eq_some_iff.1 hi).1; simp [hl] at this; omega
      obtain rfl : i = n := by omega
      rw [List.getElem?_append_right (by omega), hl] at hi
      simp at hi
      exact hi ▸ ha
theorem came_slice {α : Type} {t e : TypeId} {d : RK α} (ht : P.underlying t = some (.slice e)) (hc : P.cellsOf t = 1) (hd : Came P e d) : Came P t (RK.slice d) := by
  refine ⟨hc, Nat.one_pos, fun {H enc W sp held fuel cs x} h => ?_⟩
  obtain ⟨hde, hpos, hd⟩ := hd
  rcases DataW.trod_slice ht h with ⟨rfl, _⟩ | ⟨a, len, cap, elems, rest, n, _, rfl, _, _, hl, hm, hlen, hel, _, _⟩
  · exact ⟨[], none, 0, 0, rfl, Nat.le_refl _, Nat.zero_le _, RK.C.nil _ _ _ _⟩
  · have key : ∀ i, i < len → ∃ z : α × List Value, d.K (· < W.heap.size) W z.1 z.2 ∧ W.cells? 0 (a.add (i * d.sz)) d.sz = some z.2 := by
      intro i hi
      have h1 := hel i hi
      rw [List.getElem?_eq_getElem (by omega)] at h1
      obtain ⟨cs, h2, h3⟩ := Option.bind_eq_some_iff.1 h1
      obtain ⟨z, hz⟩ := hd h3
      exact ⟨(z, cs), hz, by rw [← hde]; exact h2⟩
    obtain ⟨zs, hzl, hz⟩ := list_of len key
    refine ⟨zs.map (·.1), some a, len, cap, rfl, hl, hm, by rw [List.length_map]; exact hzl, fun hn => ?_⟩
    have cell0 : ∀ i z, zs[i]? = some z → ∀ j v, z.2[j]? = some v → W.cell? ((a.add (i * d.sz)).add j) = some v := by
      intro i z hi j v hv
      obtain ⟨_, h1, h2⟩ := World.cells?_some (hz i z hi).2
      have hj : j < d.sz := by have := (List.getElem?_eq_some_iff.1 hv).1; omega
      rw [h2 j hj]
      exact hv
    have h0 : zs[0]? = some (zs[0]'(by omega)) := List.getElem?_eq_getElem (by omega)
    have hz0 := d.len (hz 0 _ h0).1
    have hv0 : (zs[0]'(by omega)).2[0]? = some ((zs[0]'(by omega)).2[0]'(by omega)) := List.getElem?_eq_getElem (by omega)
    have hc0 := cell0 0 _ h0 0 _ hv0
    obtain ⟨b, o, sp'⟩ := a
    have hsp : sp' = none := by
      rw [Nat.zero_mul] at hc0
      simp only [Addr.add] at hc0
      cases sp' with
      | none => rfl
      | some q => simp [World.cell?] at hc0; split at hc0 <;> simp at hc0
    subst hsp
    refine ⟨b, o, rfl, ?_, ?_, fun i x hx => ?_⟩
    · have := World.block_lt_of_cell? W _ hc0
      rwa [block_of_add, block_of_add] at this
    · have := World.block_lt_of_cell? W _ hc0
      rwa [block_of_add, block_of_add] at this
    · rw [List.getElem?_map] at hx
      obtain ⟨z, hz1, rfl⟩ := Option.map_eq_some_iff.1 hx
      refine ⟨z.2, (hz i z hz1).1, fun j v hv => ?_⟩
      have := cell0 i z hz1 j v hv
      rwa [add_plain', add_plain'] at this
/-- The fields fs from offset o on are of kind d. -/
def CameF (P : Program) {α : Type} (fs : List Field) (o : Nat) (d : RK α) : Prop := 0 < d.sz ∧
  ∀ {H : Type} {enc : TypeId × Value → H} {W : World} {sp : Nat → Bool} {held : Bool} {n : Nat} {cs : List Value}, cs.length = o + d.sz →
    (∀ f ∈ fs, ∃ x, DataW.trod enc P W 0 sp held n f.type ((cs.drop f.offset).take (P.cellsOf f.type)) = some x) → ∃ a, d.K (· < W.heap.size) W a (cs.drop o)
theorem cameF_one {α : Type} {f : Field} {o : Nat} {d : RK α} (ho : f.offset = o) (hd : Came P f.type d) : CameF P [f] o d := by
  refine ⟨hd.2.1, fun {H enc W sp held n cs} hl h => ?_⟩
  obtain ⟨x, hx⟩ := h f (by simp)
  rw [ho, hd.1, List.take_of_length_le (by rw [List.length_drop]; omega)] at hx
  exact hd.2.2 hx
theorem cameF_cons {α β : Type} {f : Field} {fs : List Field} {o : Nat} {a : RK α} {b : RK β} (ho : f.offset = o) (ha : Came P f.type a) (hb : CameF P fs (o + a.sz) b) : CameF P (f :: fs) o (RK.pair a b) := by
  have hs : (RK.pair a b).sz = a.sz + b.sz := rfl
  refine ⟨by rw [hs]; have := ha.2.1; omega, fun {H enc W sp held n cs} hl h => ?_⟩
  obtain ⟨x, hx⟩ := h f (by simp)
  rw [ho, ha.1] at hx
  obtain ⟨u, hu⟩ := ha.2.2 hx
  obtain ⟨v, hv⟩ := hb.2 (by rw [hl, hs]; omega) (fun g hg => h g (List.mem_cons_of_mem _ hg))
  exact ⟨(u, v), (cs.drop o).take a.sz, cs.drop (o + a.sz), by rw [← List.drop_drop, List.take_append_drop], hu, hv⟩
theorem came_struct {α : Type} {t : TypeId} {fs : Array Field} {d : RK α} (ht : P.underlying t = some (.struct fs)) (hc : P.cellsOf t = d.sz) (hf : CameF P fs.toList 0 d) : Came P t d := by
  refine ⟨hc, hf.1, fun {H enc W sp held fuel cs x} h => ?_⟩
  obtain ⟨xs, n, _, _, hl, hxl, hx⟩ := DataW.trod_struct ht h
  have := hf.2 (enc := enc) (W := W) (sp := sp) (held := held) (n := n) (cs := cs) (by rw [hl, hc, Nat.zero_add]) (fun f hfm => by
    obtain ⟨i, hi, rfl⟩ := List.mem_iff_getElem.1 hfm
    have h1 := hx i fs.toList[i] (by simp at hi ⊢)
    rw [h1]
    exact ⟨xs[i]'(by simp at hi; omega), List.getElem?_eq_getElem _⟩)
  rwa [List.drop_zero] at this
theorem came_iso {α β : Type} {t : TypeId} {d : RK α} (f : β → α) (g : α → β) (hg : ∀ a, f (g a) = a) (hd : Came P t d) : Came P t (RK.iso d f) :=
  ⟨hd.1, hd.2.1, fun h => by obtain ⟨a, ha⟩ := hd.2.2 h; exact ⟨g a, by show d.K _ _ (f (g a)) _; rw [hg]; exact ha⟩⟩
section
variable {H : Type} {enc : TypeId × Value → H} {W : World}
/-- An argument of one cell. -/
theorem open_one {α : Type} {t : TypeId} {d : RK α} {v : Value} {x : DataW H} {ps : List MemPlace} (hd : Came P t d) (hv : v.cells = #[v]) (h : DataW.Trod enc P W 0 (fun _ => true) true t v x ps) : ∃ a, d.K (· < W.heap.size) W a [v] := by
  obtain ⟨fuel, hf⟩ := h
  rw [hv] at hf
  exact hd.2.2 hf
theorem open_slice {α : Type} {base : Nat} {t e : TypeId} {d : RK α} {v : Value} {x : DataW H} {ps : List MemPlace} (ht : P.underlying t = some (.slice e)) (hc : P.cellsOf t = 1) (hd : Came P e d) (hv : Value.okWide P W .any base t v) (h : DataW.Trod enc P W 0 (fun _ => true) true t v x ps) :
    ∃ A n c xs, v = .slice A n c ∧ n ≤ c ∧ c ≤ maxLen ∧ d.C (· < W.heap.size) W A n xs := by
  obtain ⟨a, len, cap, rfl⟩ := okWide_slice ht hv
  obtain ⟨xs, A, n, c, hcs, h1, h2, h3⟩ := open_one (came_slice ht hc hd) rfl h
  obtain ⟨rfl, rfl, rfl⟩ : a = A ∧ len = n ∧ cap = c := by simpa using hcs
  exact ⟨a, len, cap, xs, rfl, h1, h2, h3⟩
theorem open_struct {α : Type} {base : Nat} {t : TypeId} {fs : Array Field} {d : RK α} {v : Value} {x : DataW H} {ps : List MemPlace} (ht : P.underlying t = some (.struct fs)) (hd : Came P t d) (hv : Value.okWide P W .any base t v) (h : DataW.Trod enc P W 0 (fun _ => true) true t v x ps) :
    ∃ a cs, v = .agg cs.toArray ∧ d.K (· < W.heap.size) W a cs := by
  obtain ⟨cs, rfl, _⟩ := okWide_struct ht hv
  obtain ⟨fuel, hf⟩ := h
  obtain ⟨a, ha⟩ := hd.2.2 hf
  exact ⟨a, cs.toList, by simp, ha⟩
end
end
end Go.Proofs.YtclkgflficlmiaaDoor
end

/-! ## NumPure -/
section
set_option linter.unusedVariables false
namespace Go.Proofs.YtclkgflficlmiaaDoor
open Go Go.RowKit
/-- The lowest n bytes of a number, the lowest first. -/
def leF (n x : Nat) : List Int := (List.range n).map fun k => ((x / 256 ^ k % 256 : Nat) : Int)
theorem leF_length (n x : Nat) : (leF n x).length = n := by simp [leF]
theorem leF_bytes (n x : Nat) : Bytes (leF n x) := by
  intro y hy
  simp only [leF, List.mem_map] at hy
  obtain ⟨k, _, rfl⟩ := hy
  omega
theorem leF_zero (x : Nat) : leF 0 x = [] := rfl
theorem leF_succ (n x : Nat) : leF (n + 1) x = leF n x ++ [((x / 256 ^ n % 256 : Nat) : Int)] := by simp [leF, List.range_succ]
theorem leF_cons (n x : Nat) : leF (n + 1) x = ((x % 256 : Nat) : Int) :: leF n (x / 256) := by
  simp only [leF, List.range_succ_eq_map, List.map_cons, List.map_map, Nat.pow_zero, Nat.div_one]
  congr 1
  apply List.map_congr_left
  intro k _
  simp only [Function.comp, Nat.succ_eq_add_one]
  rw [Nat.pow_succ, Nat.mul_comm, Nat.div_div_eq_div_mul]
/-- The number of bytes, the lowest first. -/
def ofLE : List Int → Int
  | [] => 0
  | b :: bs => b + 256 * ofLE bs
theorem ofLE_range : ∀ (bs : List Int), Bytes bs → 0 ≤ ofLE bs ∧ ofLE bs < 256 ^ bs.length
  | [], _ => by simp [ofLE]
  | b :: bs, h => by
    have h1 := h b (by simp)
    have h2 := ofLE_range bs (fun x hx => h x (List.mem_cons_of_mem _ hx))
    rw [ofLE, List.length_cons, Int.pow_succ]
    omega
theorem ofLE_leF : ∀ (n x : Nat), ofLE (leF n x) = ((x % 256 ^ n : Nat) : Int)
  | 0, x => by simp [leF, ofLE, Nat.mod_one]
  | n + 1, x => by
    rw [leF_cons, ofLE, ofLE_leF n (x / 256), Nat.pow_succ, Nat.mul_comm (256 ^ n) 256, Nat.mod_mul]
    omega
theorem leF_ofLE : ∀ (bs : List Int), Bytes bs → leF bs.length (ofLE bs).toNat = bs
  | [], _ => rfl
  | b :: bs, h => by
    have h1 := h b (by simp)
    have hb : Bytes bs := fun x hx => h x (List.mem_cons_of_mem _ hx)
    have h2 := ofLE_range bs hb
    have ih := leF_ofLE bs hb
    rw [List.length_cons, leF_cons, ofLE]
    have e1 : (((b + 256 * ofLE bs).toNat % 256 : Nat) : Int) = b := by omega
    have e2 : (b + 256 * ofLE bs).toNat / 256 = (ofLE bs).toNat := by omega
    rw [e1, e2, ih]
theorem ofLE_drop (bs : List Int) (i : Nat) (h : i < bs.length) : ofLE (bs.drop i) = rd bs i + 256 * ofLE (bs.drop (i + 1)) := by
  rw [List.drop_eq_getElem_cons h, ofLE]
  have : rd bs i = bs[i] := by simp [rd, List.getD_eq_getElem?_getD, List.getElem?_eq_getElem h]
  rw [this]
theorem nat_or256 (m b : Nat) (hb : b < 256) : (m * 256 ||| b) = m * 256 + b := by
  have h := Nat.shiftLeft_add_eq_or_of_lt (i := 8) (b := b) hb m
  rw [Nat.shiftLeft_eq] at h
  exact h.symm
theorem u64_or256 (m b : Int) (h0 : 0 ≤ m) (h1 : m < 72057594037927936) (hb0 : 0 ≤ b) (hb1 : b ≤ 255) : bits .or .u64 (m * 256) b = b + 256 * m := by
  obtain ⟨m, rfl⟩ := Int.eq_ofNat_of_zero_le h0
  obtain ⟨b, rfl⟩ := Int.eq_ofNat_of_zero_le hb0
  have := u64_or_nat (m * 256) b (by omega) (by omega)
  rw [nat_or256 m b (by omega)] at this
  rw [show (m : Int) * 256 = ((m * 256 : Nat) : Int) by omega, this]
  omega
theorem div256 (x k : Nat) : x / 256 ^ k / 256 = x / 256 ^ (k + 1) := by rw [Nat.div_div_eq_div_mul, Nat.pow_succ]
end Go.Proofs.YtclkgflficlmiaaDoor
end

/-! ## Frame -/
section
namespace Go.Proofs.YtclkgflficlmiaaDoor
open Go Go.ChangeShapes Go.WideShapes Go.ChangeAt Go.RowKit
section
variable {H : Type} {enc : TypeId × Value → H} {P : Program}
theorem trodAll_lt : ∀ {ts : List TypeId} {vs : List Value} {ds : List (DataW H)} {ps : List MemPlace} {W : World} {sp : Nat → Bool} {hd : Bool},
    DataW.TrodAll enc P W 0 sp hd ts vs ds ps → ∀ x ∈ ps, x.block < W.heap.size
  | [], vs, ds, ps, W, sp, hd, h => by
    obtain ⟨_, _, rfl⟩ := trodAll_nil h
    intro x hx; cases hx
  | t :: ts, vs, ds, ps, W, sp, hd, h => by
    obtain ⟨v, vs', d, ds', p, q, rfl, rfl, rfl, h1, h2⟩ := trodAll_cons h
    intro x hx
    rcases List.mem_append.1 hx with hx | hx
    · obtain ⟨m, hm⟩ := h1
      exact DataW.trod_lt m _ _ _ hm x hx
    · exact trodAll_lt h2 x hx
theorem trodAll_stays (hl : laidOutB P = true) {W W' : World} (hb : Below W.heap.size W W') : ∀ {ts : List TypeId} {vs : List Value} {ds : List (DataW H)} {ps : List MemPlace},
    (ts.all fun t => P.readableRec t && decide (t < P.types.size)) = true →
    DataW.TrodAll enc P W 0 (fun _ => true) true ts vs ds ps → (∀ x ∈ ps, x.block < W.heap.size) → DataW.TrodAll enc P W' 0 (fun b => decide (b < W.heap.size)) true ts vs ds ps
  | [], vs, ds, ps, _, h, _ => by
    obtain ⟨rfl, rfl, rfl⟩ := trodAll_nil h
    exact trodAll_mk0
  | t :: ts, vs, ds, ps, hr, h, hlt => by
    obtain ⟨v, vs', d, ds', p, q, rfl, rfl, rfl, h1, h2⟩ := trodAll_cons h
    simp only [List.all_cons, Bool.and_eq_true, decide_eq_true_eq] at hr
    exact trodAll_cons_mk (Below.trod hl hr.1.1 hr.1.2 h1 hb (fun x hx => hlt x (List.mem_append_left _ hx))) (trodAll_stays hl hb hr.2 h2 (fun x hx => hlt x (List.mem_append_right _ hx)))
theorem trodAll_length : ∀ {ts : List TypeId} {vs : List Value} {ds : List (DataW H)} {ps : List MemPlace} {W : World} {sp : Nat → Bool} {hd : Bool} {b : Nat},
    DataW.TrodAll enc P W b sp hd ts vs ds ps → ds.length = ts.length
  | [], vs, ds, ps, W, sp, hd, b, h => by
    obtain ⟨_, rfl, _⟩ := trodAll_nil h
    rfl
  | t :: ts, vs, ds, ps, W, sp, hd, b, h => by
    obtain ⟨v, vs', d, ds', p, q, rfl, rfl, rfl, h1, h2⟩ := trodAll_cons h
    simp [trodAll_length h2]
/-- THE POST of a law's row. -/
theorem law_post {f : Func} {s : ChangeSpec} {W W' : World} {args : Array Value} {ds gs : List (DataW H)} {before : List MemPlace} {tb : TypeId}
    (hl : laidOutB P = true) (hr : (f.params.toList.all fun t => P.readableRec t && decide (t < P.types.size)) = true) (hb : P.underlying tb = some .bool) (hres : f.resultTypes = #[tb]) (hs : s.vars = [])
    (hfun : ∀ ds : List (DataW H), ds.length = f.params.toList.length → s.fn H (ds ++ []) = { results := [.lit (.bool true)], args := ds })
    (hW : DataW.Whole enc P f.params.toList s.vars false W args.toList ds gs before) (bel : Below W.heap.size W W') :
    s.post enc P f false true false false W args (.bool true) W' := by
  have hW' := hW
  obtain ⟨p, q, hA, hV, rfl, hfz, hnd⟩ := hW
  rw [hs] at hV
  obtain ⟨rfl, rfl⟩ := trodVars_none hV
  have hlen := trodAll_length hA
  have hlt := trodAll_lt hA
  have hfn := hfun ds hlen
  refine ⟨ds, [], _, [], p, [], hW', ?_, ?_, ?_, bel.frame _, fun h => by cases h⟩
  · rw [hfn, hres]
    exact trodAll_mk1 (shut_bool hb _)
  · rw [hfn]
    exact trodAll_stays hl bel hr hA hlt
  · rw [hs, hfn]
    rfl
/-- An array of whole numbers, off its cells. -/
theorem trod_nums {w : World} {base : Nat} {spare : Nat → Bool} {held : Bool} {t e : TypeId} {n fuel : Nat} {k : IntKind} {cs : List Value} {x : DataW H × List MemPlace} (ht : P.underlying t = some (.array n e)) (he : P.underlying e = some (.int k)) (hc : P.cellsOf e = 1) (hct : P.cellsOf t = n)
    (h : DataW.trod enc P w base spare held fuel t cs = some x) : ∃ ns : List Int, ns.length = n ∧ cs = nums k ns ∧ ∀ y ∈ ns, (Lit.int k y).wf = true := by
  obtain ⟨xs, m, _, _, hcl, hxl, hx⟩ := DataW.trod_array ht h
  rw [hct] at hcl
  rw [hc] at hx
  have key : ∀ i (hi : i < cs.length), ∃ y, cs[i] = .int k y ∧ (Lit.int k y).wf = true := by
    intro i hi
    have h1 := hx i (by omega)
    rw [Nat.mul_one, List.drop_eq_getElem_cons hi, List.take_succ_cons, List.take_zero] at h1
    have h2 : xs[i]? = some (xs[i]'(by omega)) := List.getElem?_eq_getElem (by omega)
    rw [h2] at h1
    obtain ⟨y, h3, _, h4⟩ := DataW.trod_int he h1
    exact ⟨y, by simpa using h3, h4⟩
  refine ⟨cs.map (fun v => match v with | .int _ y => y | _ => 0), by rw [List.length_map, hcl], ?_, ?_⟩
  · apply List.ext_getElem
    · simp [nums]
    · intro i h1 h2
      obtain ⟨y, hy, _⟩ := key i h1
      simp [nums, hy]
  · intro y hy
    simp only [List.mem_map] at hy
    obtain ⟨v, hv, rfl⟩ := hy
    obtain ⟨i, hi, rfl⟩ := List.mem_iff_getElem.1 hv
    obtain ⟨y, hy, hw⟩ := key i hi
    rw [hy]; exact hw
theorem bytes_of_wf {ns : List Int} (h : ∀ y ∈ ns, (Lit.int .u8 y).wf = true) : Bytes ns := by
  intro y hy
  have := h y hy
  simp [Lit.wf, IntKind.min, IntKind.max, IntKind.signed, IntKind.bits] at this
  omega
/-- A digest that came in. -/
theorem open_hash {W : World} {base : Nat} {t e : TypeId} {v : Value} {d : DataW H} {ps : List MemPlace} (ht : P.underlying t = some (.array 32 e)) (he : P.underlying e = some (.int .u8)) (hc : P.cellsOf e = 1) (hct : P.cellsOf t = 32)
    (hv : Value.okWide P W .any base t v) (h : DataW.Trod enc P W 0 (fun _ => true) true t v d ps) : ∃ ns : List Int, ns.length = 32 ∧ Bytes ns ∧ v = .agg (nums .u8 ns).toArray := by
  simp only [Value.okWide, ht] at hv
  obtain ⟨cs, rfl, _, _⟩ := hv
  obtain ⟨fuel, hf⟩ := h
  obtain ⟨ns, h1, h2, h3⟩ := trod_nums ht he hc hct hf
  refine ⟨ns, h1, bytes_of_wf h3, ?_⟩
  simp only [Value.cells] at h2
  rw [← h2]
end
end Go.Proofs.YtclkgflficlmiaaDoor
end

/-! ## TxK -/
section
set_option maxRecDepth 100000
set_option linter.unusedVariables false
namespace Go.Proofs.YtclkgflficlmiaaDoor
open Go Go.ChangeShapes Go.WideShapes Go.ChangeAt Go.RowKit
structure TIn where
  id : List Int
  out : Int
  script : ByteArray
  seq : Int
  wit : List ByteArray
structure TOut where
  coins : Int
  script : ByteArray
structure TTx where
  ver : Int
  ins : List TIn
  outs : List TOut
  lock : Int
structure TIn.Ok (x : TIn) : Prop where
  idl : x.id.length = 32
  idb : Bytes x.id
  o0 : 0 ≤ x.out
  o1 : x.out ≤ 4294967295
  s0 : 0 ≤ x.seq
  s1 : x.seq ≤ 4294967295
  sc : x.script.size ≤ maxLen
  wit : ∀ s ∈ x.wit, s.size ≤ maxLen
structure TOut.Ok (x : TOut) : Prop where
  c0 : -9223372036854775808 ≤ x.coins
  c1 : x.coins ≤ 9223372036854775807
  sc : x.script.size ≤ maxLen
/-- An input's cells: 36. -/
def inCells (x : TIn) (v : Value) : List Value := nums .u8 x.id ++ [.int .u32 x.out, .string x.script, .int .u32 x.seq, v]
theorem inCells_length {x : TIn} (h : x.id.length = 32) (v : Value) : (inCells x v).length = 36 := by simp [inCells, nums_length, h]
theorem inCells_take {x : TIn} (h : x.id.length = 32) (v : Value) : (inCells x v).take 32 = nums .u8 x.id := by
  unfold inCells
  rw [List.take_append_of_le_length (by rw [nums_length, h]; exact Nat.le_refl _), List.take_of_length_le (by rw [nums_length, h]; exact Nat.le_refl _)]
theorem inCells_drop {x : TIn} (h : x.id.length = 32) (v : Value) : (inCells x v).drop 32 = [.int .u32 x.out, .string x.script, .int .u32 x.seq, v] := by
  unfold inCells
  rw [List.drop_append_of_le_length (by rw [nums_length, h]; exact Nat.le_refl _), List.drop_of_length_le (by rw [nums_length, h]; exact Nat.le_refl _), List.nil_append]
theorem inCells_at {x : TIn} (h : x.id.length = 32) (v : Value) (i : Nat) : (inCells x v)[32 + i]? = ([.int .u32 x.out, .string x.script, .int .u32 x.seq, v] : List Value)[i]? := by
  rw [← inCells_drop h v, List.getElem?_drop]
def inK : RK TIn where
  sz := 36
  K := fun S w x cs => ∃ A n c, cs = inCells x (.slice A n c) ∧ x.Ok ∧ n ≤ c ∧ c ≤ maxLen ∧ RK.str.C S w A n x.wit
  len := by
    rintro S w x cs ⟨A, n, c, rfl, h, _⟩
    exact inCells_length h.idl _
  one := by
    rintro S w x cs ⟨A, n, c, rfl, h, _⟩ u hu
    simp only [inCells, List.mem_append, List.mem_cons, List.not_mem_nil, or_false] at hu
    rcases hu with hu | rfl | rfl | rfl | rfl
    · exact nums_one _ _ u hu
    all_goals rfl
  move := by
    rintro S w w1 x cs hm ⟨A, n, c, h1, h2, h3, h4, h5⟩
    exact ⟨A, n, c, h1, h2, h3, h4, RK.C.move h5 hm⟩
  mono := by
    rintro S S' w x cs hm ⟨A, n, c, h1, h2, h3, h4, h5⟩
    exact ⟨A, n, c, h1, h2, h3, h4, RK.C.mono h5 hm⟩
def outK : RK TOut where
  sz := 2
  K := fun S w x cs => cs = [.int .i64 x.coins, .string x.script] ∧ x.Ok
  len := by
    rintro S w x cs ⟨rfl, _⟩
    rfl
  one := by
    rintro S w x cs ⟨rfl, _⟩ u hu
    simp only [List.mem_cons, List.not_mem_nil, or_false] at hu
    rcases hu with rfl | rfl <;> rfl
  move := fun _ h => h
  mono := fun _ h => h
def txK : RK TTx where
  sz := 4
  K := fun S w x cs => ∃ A1 n1 c1 A2 n2 c2, cs = [.int .i32 x.ver, .slice A1 n1 c1, .slice A2 n2 c2, .int .u32 x.lock] ∧ (-2147483648 ≤ x.ver ∧ x.ver ≤ 2147483647) ∧ (0 ≤ x.lock ∧ x.lock ≤ 4294967295) ∧ n1 ≤ c1 ∧ c1 ≤ maxLen ∧ n2 ≤ c2 ∧ c2 ≤ maxLen ∧ inK.C S w A1 n1 x.ins ∧ outK.C S w A2 n2 x.outs
  len := by
    rintro S w x cs ⟨A1, n1, c1, A2, n2, c2, rfl, _⟩
    rfl
  one := by
    rintro S w x cs ⟨A1, n1, c1, A2, n2, c2, rfl, _⟩ u hu
    simp only [List.mem_cons, List.not_mem_nil, or_false] at hu
    rcases hu with rfl | rfl | rfl | rfl <;> rfl
  move := by
    rintro S w w1 x cs hm ⟨A1, n1, c1, A2, n2, c2, h1, h2, h3, h4, h5, h6, h7, h8, h9⟩
    exact ⟨A1, n1, c1, A2, n2, c2, h1, h2, h3, h4, h5, h6, h7, RK.C.move h8 hm, RK.C.move h9 hm⟩
  mono := by
    rintro S S' w x cs hm ⟨A1, n1, c1, A2, n2, c2, h1, h2, h3, h4, h5, h6, h7, h8, h9⟩
    exact ⟨A1, n1, c1, A2, n2, c2, h1, h2, h3, h4, h5, h6, h7, RK.C.mono h8 hm, RK.C.mono h9 hm⟩
/-- What came in is of another kind, too. -/
theorem Came.conv {P : Program} {α β : Type} {t : TypeId} {d : RK α} {d' : RK β} (h : Came P t d) (hsz : d.sz = d'.sz) (hK : ∀ S w x cs, d.K S w x cs → ∃ y, d'.K S w y cs) : Came P t d' :=
  ⟨h.1.trans hsz, hsz ▸ h.2.1, fun hx => by
    obtain ⟨a, ha⟩ := h.2.2 hx
    exact hK _ _ _ _ ha⟩
abbrev inP : RK ((List Int × Int) × (ByteArray × (Int × List ByteArray))) := RK.pair (RK.pair (RK.hash 32) (RK.int .u32)) (RK.pair RK.str (RK.pair (RK.int .u32) (RK.slice RK.str)))
abbrev inP' : RK (List Int × (Int × (ByteArray × (Int × List ByteArray)))) := RK.pair (RK.hash 32) (RK.pair (RK.int .u32) (RK.pair RK.str (RK.pair (RK.int .u32) (RK.slice RK.str))))
abbrev outP : RK (Int × ByteArray) := RK.pair (RK.int .i64) RK.str
abbrev txP : RK (Int × (List TIn × (List TOut × Int))) := RK.pair (RK.int .i32) (RK.pair (RK.slice inK) (RK.pair (RK.slice outK) (RK.int .u32)))
theorem u32_rng {x : Int} (h : IntKind.u32.min ≤ x ∧ x ≤ IntKind.u32.max) : 0 ≤ x ∧ x ≤ 4294967295 := by
  simpa [IntKind.min, IntKind.max, IntKind.signed, IntKind.bits] using h
theorem i32_rng {x : Int} (h : IntKind.i32.min ≤ x ∧ x ≤ IntKind.i32.max) : -2147483648 ≤ x ∧ x ≤ 2147483647 := by
  simpa [IntKind.min, IntKind.max, IntKind.signed, IntKind.bits] using h
theorem i64_rng {x : Int} (h : IntKind.i64.min ≤ x ∧ x ≤ IntKind.i64.max) : -9223372036854775808 ≤ x ∧ x ≤ 9223372036854775807 := by
  simpa [IntKind.min, IntKind.max, IntKind.signed, IntKind.bits] using h
theorem inP_conv (S : Nat → Prop) (w : World) (x : (List Int × Int) × (ByteArray × (Int × List ByteArray))) (cs : List Value) (h : inP.K S w x cs) : ∃ y, inK.K S w y cs := by
  obtain ⟨⟨id, out⟩, script, seq, wit⟩ := x
  obtain ⟨c0, c1, rfl, ⟨c2, c3, rfl, ⟨rfl, hl, hb⟩, ⟨rfl, ho⟩⟩, ⟨c4, c5, rfl, ⟨rfl, hs⟩, ⟨c6, c7, rfl, ⟨rfl, hq⟩, ⟨A, n, c, rfl, h1, h2, h3⟩⟩⟩⟩ := h
  refine ⟨⟨id, out, script, seq, wit⟩, A, n, c, ?_, ⟨hl, hb, (u32_rng ho).1, (u32_rng ho).2, (u32_rng hq).1, (u32_rng hq).2, hs, h3.all_str⟩, h1, h2, h3⟩
  simp [inCells]
theorem inP'_conv (S : Nat → Prop) (w : World) (x : List Int × (Int × (ByteArray × (Int × List ByteArray)))) (cs : List Value) (h : inP'.K S w x cs) : ∃ y, inK.K S w y cs := by
  obtain ⟨id, out, script, seq, wit⟩ := x
  obtain ⟨c2, c3, rfl, ⟨rfl, hl, hb⟩, ⟨c8, c1, rfl, ⟨rfl, ho⟩, ⟨c4, c5, rfl, ⟨rfl, hs⟩, ⟨c6, c7, rfl, ⟨rfl, hq⟩, ⟨A, n, c, rfl, h1, h2, h3⟩⟩⟩⟩⟩ := h
  refine ⟨⟨id, out, script, seq, wit⟩, A, n, c, ?_, ⟨hl, hb, (u32_rng ho).1, (u32_rng ho).2, (u32_rng hq).1, (u32_rng hq).2, hs, h3.all_str⟩, h1, h2, h3⟩
  simp [inCells]
theorem outP_conv (S : Nat → Prop) (w : World) (x : Int × ByteArray) (cs : List Value) (h : outP.K S w x cs) : ∃ y, outK.K S w y cs := by
  obtain ⟨coins, script⟩ := x
  obtain ⟨c0, c1, rfl, ⟨rfl, hc⟩, ⟨rfl, hs⟩⟩ := h
  exact ⟨⟨coins, script⟩, rfl, ⟨(i64_rng hc).1, (i64_rng hc).2, hs⟩⟩
theorem txP_conv (S : Nat → Prop) (w : World) (x : Int × (List TIn × (List TOut × Int))) (cs : List Value) (h : txP.K S w x cs) : ∃ y, txK.K S w y cs := by
  obtain ⟨ver, ins, outs, lock⟩ := x
  obtain ⟨c0, c1, rfl, ⟨rfl, hv⟩, ⟨c2, c3, rfl, ⟨A1, n1, k1, rfl, h1, h2, h3⟩, ⟨c4, c5, rfl, ⟨A2, n2, k2, rfl, h4, h5, h6⟩, ⟨rfl, hl⟩⟩⟩⟩ := h
  exact ⟨⟨ver, ins, outs, lock⟩, A1, n1, k1, A2, n2, k2, rfl, i32_rng hv, u32_rng hl, h1, h2, h4, h5, h3, h6⟩
/-! ### bytes -/
/-- A number as Bitcoin lays it. -/
def compF (x : Nat) : List Int := if x < 253 then [(x : Int)] else if x ≤ 65535 then 253 :: leF 2 x else if x ≤ 4294967295 then 254 :: leF 4 x else 255 :: leF 8 x
theorem compF_length (x : Nat) : (compF x).length = if x < 253 then 1 else if x ≤ 65535 then 3 else if x ≤ 4294967295 then 5 else 9 := by
  unfold compF
  split
  · rfl
  · split
    · simp [leF_length]
    · split <;> simp [leF_length]
theorem compF_le (x : Nat) : 1 ≤ (compF x).length ∧ (compF x).length ≤ 9 := by rw [compF_length]; split <;> (try split) <;> (try split) <;> omega
theorem compF_bytes (x : Nat) : Bytes (compF x) := by
  unfold compF
  intro y hy
  split at hy
  · rw [List.mem_singleton.1 hy]; omega
  · split at hy
    · rcases List.mem_cons.1 hy with rfl | hy
      · omega
      · exact leF_bytes _ _ y hy
    · split at hy
      · rcases List.mem_cons.1 hy with rfl | hy
        · omega
        · exact leF_bytes _ _ y hy
      · rcases List.mem_cons.1 hy with rfl | hy
        · omega
        · exact leF_bytes _ _ y hy
/-- A text with its length ahead. -/
def textF (s : ByteArray) : List Int := compF s.size ++ bytesOf s
def layIn (x : TIn) : List Int := x.id ++ leF 4 x.out.toNat ++ textF x.script ++ leF 4 x.seq.toNat
def layOut (x : TOut) : List Int := leF 8 (x.coins % 18446744073709551616).toNat ++ textF x.script
def layWit (x : TIn) : List Int := compF x.wit.length ++ x.wit.flatMap textF
def layF (t : TTx) (wit : Bool) : List Int :=
  leF 4 (t.ver % 4294967296).toNat ++ (if wit then [0, 1] else []) ++ compF t.ins.length ++ t.ins.flatMap layIn ++ compF t.outs.length ++ t.outs.flatMap layOut ++ (if wit then t.ins.flatMap layWit else []) ++ leF 4 t.lock.toNat
def TTx.hasWit (t : TTx) : Bool := t.ins.any fun i => decide (0 < i.wit.length)
end Go.Proofs.YtclkgflficlmiaaDoor
end

/-! ## ExpPure -/
section
set_option maxRecDepth 100000
set_option linter.unusedVariables false
namespace Go.Proofs.YtclkgflficlmiaaDoor
open Go Go.RowKit
def sizF (b : Int) : Nat := if b = 253 then 2 else if b = 254 then 4 else 8
/-- The number that bytes begin with, how many bytes it has, the error. -/
def expF : List Int → Int × Nat × Int
  | [] => (0, 0, 8)
  | b :: r => if b < 253 then (b, 1, 0) else if r.length < sizF b then (0, 0, 8)
    else if (compF (ofLE (r.take (sizF b))).toNat).length ≠ 1 + sizF b then (0, 0, 2) else (ofLE (r.take (sizF b)), 1 + sizF b, 0)
theorem expF_cut {bs : List Int} {x : Int} {k : Nat} (h : expF bs = (x, k, 0)) : k ≤ bs.length ∧ 1 ≤ k ∧ k ≤ 9 := by
  match bs with
  | [] => cases h
  | b :: r =>
    simp only [expF] at h
    have hs : 1 ≤ sizF b ∧ sizF b ≤ 8 := by unfold sizF; split <;> (try split) <;> omega
    split at h
    · simp only [Prod.mk.injEq] at h
      simp only [List.length_cons]
      omega
    · split at h
      · simp at h
      · split at h
        · simp at h
        · simp only [Prod.mk.injEq] at h
          simp only [List.length_cons]
          omega
theorem expF_range {bs : List Int} (hb : Bytes bs) : 0 ≤ (expF bs).1 ∧ (expF bs).1 < 18446744073709551616 := by
  match bs with
  | [] => simp [expF]
  | b :: r =>
    have h0 := hb b (by simp)
    have hr : Bytes r := fun x hx => hb x (List.mem_cons_of_mem _ hx)
    have hs : sizF b ≤ 8 := by unfold sizF; split <;> (try split) <;> omega
    have h1 := ofLE_range (r.take (sizF b)) (hr.take _)
    have h2 : (256 : Nat) ^ (r.take (sizF b)).length ≤ 256 ^ 8 := Nat.pow_le_pow_right (by decide) (by rw [List.length_take]; omega)
    have h3 : (256 : Int) ^ (r.take (sizF b)).length = ((256 ^ (r.take (sizF b)).length : Nat) : Int) := by rw [Int.natCast_pow]; rfl
    simp only [expF]
    split
    · simp only; omega
    · split
      · simp
      · split
        · simp
        · simp only; omega
end Go.Proofs.YtclkgflficlmiaaDoor
end

/-! ## RdrPure -/
section
set_option maxRecDepth 100000
set_option linter.unusedVariables false
namespace Go.Proofs.YtclkgflficlmiaaDoor
open Go Go.RowKit
/-- What is left to be read, and the first error. -/
structure PSt where
  bs : List Int
  e : Int
def PSt.takeB (p : PSt) (n : Nat) : List Int := if p.e = 0 ∧ n ≤ p.bs.length then p.bs.take n else []
def PSt.take (p : PSt) (n : Nat) : PSt := if p.e = 0 then (if n ≤ p.bs.length then ⟨p.bs.drop n, 0⟩ else ⟨p.bs, 8⟩) else p
def PSt.countV (p : PSt) (most : Nat) : Nat := if p.e ≠ 0 then 0 else if (expF p.bs).2.2 ≠ 0 then 0 else if (most : Int) < (expF p.bs).1 then 0 else (expF p.bs).1.toNat
def PSt.count (p : PSt) (most : Nat) : PSt := if p.e ≠ 0 then p else if (expF p.bs).2.2 ≠ 0 then ⟨p.bs, (expF p.bs).2.2⟩ else if (most : Int) < (expF p.bs).1 then ⟨p.bs, 2⟩ else ⟨p.bs.drop (expF p.bs).2.1, 0⟩
def PSt.textB (p : PSt) : List Int := (p.count 10000).takeB (p.countV 10000)
def PSt.text (p : PSt) : PSt := (p.count 10000).take (p.countV 10000)
theorem PSt.takeB_len (p : PSt) (n : Nat) : (p.takeB n).length ≤ n := by
  unfold PSt.takeB
  split
  · exact List.length_take_le _ _
  · simp
theorem PSt.takeB_bytes {p : PSt} (h : Bytes p.bs) (n : Nat) : Bytes (p.takeB n) := by
  unfold PSt.takeB
  split
  · exact h.take n
  · exact Bytes.nil
end Go.Proofs.YtclkgflficlmiaaDoor
end

/-! ## More -/
section
set_option linter.unusedVariables false
namespace Go.Proofs.YtclkgflficlmiaaDoor
open Go Go.RowKit
section
variable {P : Program}
theorem wpQuiet_load_row {ops : Array Oper} {rest : List Oper} {o : Oper} {a : Act} {w : World} {Q : Act → Prop} (hgd : o.guard = none) (ty : TypeId) (x : Operand) (ho : o.op = .load ty x)
    (g : Nat) (hx : a.eval x = .pointer (some ⟨g, 0, none⟩)) (t : TypeId) (cs : Array Value) (fr : Nat × Nat) (d : TypeDesc) (hg : w.heap[g]? = some (.cells cs t fr))
    (hu : P.underlying ty = some d) (hd : (match d with | .struct _ | .array _ _ => true | _ => false) = true) (hi : (P.info? ty).map (·.size) = some cs.size)
    (h : wpQuiet P ops (fun w' => ∃ n, w' = w.drewN n) Q rest (a.put o.dst (.agg cs))) : wpQuiet P ops (fun w' => ∃ n, w' = w.drewN n) Q (o :: rest) a :=
  BigFrame.wpQuiet_want (by simp [Region.wanted, hgd]) fun K hK => ⟨_, fun W hW => by
    obtain ⟨n, rfl⟩ := hW
    unfold Oper.quietAt execOp
    simp only [ho, hx, Instr.loadAt, Instr.sureAddr, Sem.run_bind, Sem.run_pure, Result.andThen_ok, run_loadVar_row (w.drewN n) g t ty cs fr d hg hu hd hi]
    exact ⟨rfl, rfl⟩, hK _ h⟩
theorem run_copy_rd (w : World) (dT sT ty elem : TypeId) (g dLen dCap : Nat) (k : IntKind) (A : Option Addr) (sLen sCap : Nat) (cur : List Int) (t : TypeId) (xs : List Int)
    (hu : P.underlying dT = some (.slice elem)) (hs : (P.info? elem).map (·.size) = some 1)
    (hg : w.heap[g]? = some (.cells (nums k cur).toArray t (0, 0))) (hr : Rd w A sLen (nums k xs)) (hn : sLen ≤ dLen) (hfit : sLen ≤ cur.length) :
    ∃ w', (Builtin.copy_ #[dT, sT] ty #[.slice (some ⟨g, 0, none⟩) dLen dCap, .slice A sLen sCap]).run P w = .ok (.int .i64 sLen) w' ∧
      w'.heap[g]? = some (.cells (nums k (xs ++ cur.drop sLen)).toArray t (0, 0)) ∧ Turned w g w' := by
  have hl : xs.length = sLen := by have := hr.1; rwa [nums_length] at this
  rcases Nat.eq_zero_or_pos sLen with h0 | h0
  · subst h0
    obtain rfl : xs = [] := List.eq_nil_of_length_eq_zero hl
    exact ⟨w, run_copy_none w dT sT ty elem _ _ _ _ _ _ hu hs (Nat.zero_min _), by simpa using hg, ⟨rfl, rfl, rfl, rfl, fun _ _ => rfl⟩⟩
  · obtain ⟨b, o, rfl, hc⟩ := hr.2 h0
    have hm : (nums k xs).length = Nat.min sLen dLen := by rw [hr.1]; exact (Nat.min_eq_left hn).symm
    have := run_copy_row (P := P) w dT sT ty elem g 0 dLen dCap ⟨b, o, none⟩ sLen sCap (nums k cur).toArray t (nums k xs) hu hs hg hm
      (fun j v hv => by rw [add_plain']; exact hc j v hv) (by rw [nums_length, nums_size, Nat.zero_add, hl]; exact hfit) (nums_one k xs)
    have e : (List.take 0 (nums k cur).toArray.toList ++ nums k xs ++ List.drop (0 + (nums k xs).length) (nums k cur).toArray.toList).toArray = (nums k (xs ++ cur.drop sLen)).toArray := by
      simp only [nums_length, List.take_zero, List.nil_append, Nat.zero_add, hl, nums_drop, nums_append]
    rw [e, hr.1] at this
    exact ⟨w.setRow g (nums k (xs ++ cur.drop sLen)).toArray, this, setRow_heap _ _ _ _ _ _ hg, turned_setRow w g _⟩
end
section
variable {P : Program} {H : Type} {enc : TypeId × Value → H}
/-- A variable that was laid: its block. -/
theorem var_block {w : World} {name : String} {g : Nat} {cs : Array Value} (hg : P.globalNamed name = some g) (h : w.var? P name = some cs) : ∃ t fz, w.heap[g]? = some (.cells cs t fz) := by
  unfold World.var? at h
  rw [hg] at h
  simp only [Option.bind_some] at h
  split at h
  · rename_i c t f hh
    obtain rfl := Option.some.inj h
    exact ⟨t, f, hh⟩
  · cases h
/-- An array of whole numbers, off its cells, with what it says. -/
theorem trod_nums_val {w : World} {base : Nat} {spare : Nat → Bool} {held : Bool} {t e : TypeId} {n fuel : Nat} {k : IntKind} {cs : List Value} {ys : List Int} {p : List MemPlace} (ht : P.underlying t = some (.array n e)) (he : P.underlying e = some (.int k)) (hc : P.cellsOf e = 1) (hct : P.cellsOf t = n)
    (hy : ys.length = n) (h : DataW.trod enc P w base spare held fuel t cs = some (.agg (ys.map fun y => .lit (.int k y)), p)) : cs = nums k ys := by
  obtain ⟨xs, m, _, hx1, hcl, hxl, hx⟩ := DataW.trod_array ht h
  rw [hct] at hcl
  rw [hc] at hx
  simp only [Prod.mk.injEq, DataW.agg.injEq] at hx1
  apply List.ext_getElem
  · rw [nums_length, hcl, hy]
  · intro i h1 h2
    have h3 := hx i (by omega)
    rw [Nat.mul_one, List.drop_eq_getElem_cons h1, List.take_succ_cons, List.take_zero] at h3
    have hxi : i < xs.length := by omega
    rw [List.getElem?_eq_getElem hxi] at h3
    obtain ⟨y, h4, h5, _⟩ := DataW.trod_int he h3
    have h6 := congrArg (fun l => l[i]?) hx1.1
    simp only [List.getElem?_map, List.getElem?_eq_getElem hxi, List.getElem?_eq_getElem (show i < ys.length by omega), Option.map_some, Option.some.injEq] at h6
    rw [h5] at h6
    simp only [DataW.lit.injEq, Lit.int.injEq] at h6
    have h7 : cs[i] = .int k y := by simpa using h4
    rw [h7]
    simp only [nums, List.getElem_map]
    rw [h6.2]
end
/-- A row that is made with these values. -/
theorem own_new {w : World} {base : Nat} {e : TypeId} (xs : List Value) (hb : base ≤ w.heap.size) (hm : xs.length ≤ maxLen) :
    (w.alloc (.cells xs.toArray e)).ownsRow base e 1 (.slice (some ⟨w.heap.size, 0, none⟩) xs.length xs.length) xs.length xs :=
  ⟨(Nat.mul_one _).symm, .inr ⟨w.heap.size, xs.length, xs.toArray, rfl, hb, heap_alloc_new _ _, Nat.le_refl _, hm, by simp, by simp⟩⟩
theorem below_grown {w w' : World} {o : Obj} (h : (w.alloc o).grownBy w' (some w.heap.size)) : Below w.heap.size w w' :=
  ((Below.refl _ _).alloc (Nat.le_refl _) _).grown h (by simp) (fun j hj => by obtain rfl := Option.some.inj hj; exact Nat.le_refl _)
/-- A world written out is made a variable, of which q is known. -/
theorem wp_gen {P : Program} {c : Code} {Q : Exit → Act → World → Prop} {a : Act} {w0 : World} {q : World → Prop} (h : q w0) (k : ∀ w, q w → c.wp P Q a w) : c.wp P Q a w0 := k w0 h
end Go.Proofs.YtclkgflficlmiaaDoor
end

/-! ## AppN -/
section
set_option linter.unusedVariables false
namespace Go.Proofs.YtclkgflficlmiaaDoor
open Go Go.RowKit
section
variable {P : Program} {w : World}
theorem wpList_appN {ops : Array Oper} {rest : List Oper} {o : Oper} {a : Act} {Q : Exit → Act → World → Prop} (hgd : o.guard = none) (s x : Operand) (t : TypeId)
    (ho : o.op = .call { callee := .builtin .append, args := #[s, x], argTypes := #[t, t] })
    (base : Nat) (e : TypeId) (z : Value) (bytes : Nat) (ht : P.underlying t = some (.slice e)) (hinfo : (P.info? e).map (fun i => (i.zero, i.size, i.bytes)) = some (some z, 1, bytes)) (hzs : z.cells.size = 1)
    (v : Value) (n : Nat) (xs : List Value) (hs : a.eval s = v) (hown : w.ownsRow base e 1 v n xs)
    (A : Option Addr) (m c : Nat) (news : List Value) (hx : a.eval x = .slice A m c) (hr : Rd w A m news) (h1 : ∀ u ∈ news, u.oneCell' = true)
    (N : Nat) (zs : List Value) (hN : n + m = N) (hz : xs ++ news = zs)
    (h63 : N ≤ maxLen) (hbytes : N * bytes ≤ 140737488355328) (hbase : base ≤ w.heap.size)
    (h : ∀ A' c' w', w'.ownsRow base e 1 (.slice A' N c') N zs → w.grownBy w' v.ownBlock → ((Value.slice A' N c').ownBlock = v.ownBlock ∨ (Value.slice A' N c').ownBlock = some w.heap.size) → wpList P ops Q rest (a.put o.dst (.slice A' N c')) w') : wpList P ops Q (o :: rest) a w := by
  subst hN
  subst hz
  exact wpList_app w hgd s x t ho base e z bytes ht hinfo hzs v n xs hs hown A m c news hx hr h1 h63 hbytes hbase h
theorem step_appN {ops : Array Oper} {o : Oper} {a : Act} {K : Act → World → Prop} {Q : Exit → Act → World → Prop} {E : Prop} (hgd : o.guard = none) (s x : Operand) (t : TypeId)
    (ho : o.op = .call { callee := .builtin .append, args := #[s, x], argTypes := #[t, t] })
    (base : Nat) (e : TypeId) (z : Value) (bytes : Nat) (ht : P.underlying t = some (.slice e)) (hinfo : (P.info? e).map (fun i => (i.zero, i.size, i.bytes)) = some (some z, 1, bytes)) (hzs : z.cells.size = 1)
    (v : Value) (n : Nat) (xs : List Value) (hs : a.eval s = v) (hown : w.ownsRow base e 1 v n xs)
    (A : Option Addr) (m c : Nat) (news : List Value) (hx : a.eval x = .slice A m c) (hr : Rd w A m news) (h1 : ∀ u ∈ news, u.oneCell' = true)
    (N : Nat) (zs : List Value) (hN : n + m = N) (hz : xs ++ news = zs)
    (h63 : N ≤ maxLen) (hbytes : N * bytes ≤ 140737488355328) (hbase : base ≤ w.heap.size)
    (h : ∀ A' c' w', w'.ownsRow base e 1 (.slice A' N c') N zs → w.grownBy w' v.ownBlock → ((Value.slice A' N c').ownBlock = v.ownBlock ∨ (Value.slice A' N c').ownBlock = some w.heap.size) → K (a.put o.dst (.slice A' N c')) w') :
    if Region.wanted o (yielded ops a.tmps) = true then Oper.wp P o a w K Q else E := by
  subst hN
  subst hz
  exact step_app w hgd s x t ho base e z bytes ht hinfo hzs v n xs hs hown A m c news hx hr h1 h63 hbytes hbase h
/-- append onto a slice that is full: a new row is made. -/
theorem wpList_appG {ops : Array Oper} {rest : List Oper} {o : Oper} {a : Act} {Q : Exit → Act → World → Prop} (hgd : o.guard = none) (s x : Operand) (t : TypeId)
    (ho : o.op = .call { callee := .builtin .append, args := #[s, x], argTypes := #[t, t] })
    (e : TypeId) (z : Value) (bytes : Nat) (ht : P.underlying t = some (.slice e)) (hinfo : (P.info? e).map (fun i => (i.zero, i.size, i.bytes)) = some (some z, 1, bytes)) (hzs : z.cells.size = 1)
    (A : Option Addr) (n cap : Nat) (olds : List Value) (hs : a.eval s = .slice A n cap) (hro : Rd w A n olds) (hn0 : 0 < n)
    (B : Option Addr) (m c : Nat) (news : List Value) (hx : a.eval x = .slice B m c) (hr : Rd w B m news) (hm0 : 0 < m) (h1 : ∀ u ∈ news, u.oneCell' = true)
    (hfull : cap < n + m) (N : Nat) (zs : List Value) (hN : n + m = N) (hz : olds ++ news = zs) (h63 : N ≤ maxLen) (hbytes : N * bytes ≤ 140737488355328)
    (h : ∀ g c' w', w'.ownsRow w.heap.size e 1 (.slice (some ⟨g, 0, none⟩) N c') N zs → w.heap.size ≤ g → Below w.heap.size w w' → wpList P ops Q rest (a.put o.dst (.slice (some ⟨g, 0, none⟩) N c')) w') : wpList P ops Q (o :: rest) a w := by
  subst hN
  subst hz
  obtain ⟨inf, hi, hz, hsize, hby⟩ : ∃ i, P.info? e = some i ∧ i.zero = some z ∧ i.size = 1 ∧ i.bytes = bytes := by
    cases h : P.info? e with
    | none => rw [h] at hinfo; cases hinfo
    | some i => exact ⟨i, rfl, by simpa [h] using hinfo⟩
  obtain ⟨b, o1, rfl, hc1⟩ := hro.2 hn0
  obtain ⟨b2, o2, rfl, hc2⟩ := hr.2 hm0
  refine wpList_append_grows w hgd s x t ho e inf z 1 bytes ht hi hz hsize hby hzs (by decide) (some ⟨b, o1, none⟩) n cap olds hs (fun h => by cases h) (by rw [hro.1, Nat.mul_one]) (fun p hp j u hu => by obtain rfl := Option.some.inj hp; rw [add_plain']; exact hc1 j u hu)
    ⟨b2, o2, none⟩ m c news hx (by rw [hr.1, Nat.mul_one]) (fun j u hu => by rw [add_plain']; exact hc2 j u hu) h1 hfull h63 hbytes ?_
  intro v' w' hown hgrow
  obtain ⟨g, c', rfl, hg, hlt⟩ := hown.form (by omega)
  exact h g c' w' hown hg ⟨hgrow.os, hgrow.tape, hgrow.output, hgrow.size, fun k hk => hgrow.block k hk (fun e => by cases e)⟩
end
theorem own_le {w : World} {base n c : Nat} {e : TypeId} {size : Nat} {A : Option Addr} {xs : List Value} (h : w.ownsRow base e size (.slice A n c) n xs) : n ≤ c ∧ c ≤ maxLen := by
  rcases h.2 with ⟨hv, _⟩ | ⟨g, cap, cur, hv, _, _, h3, h4, _⟩
  · injection hv with e1 e2 e3
    subst e2 e3
    exact ⟨Nat.le_refl _, Nat.zero_le _⟩
  · injection hv with e1 e2 e3
    subst e3
    exact ⟨h3, h4⟩
/-- The world, said: fails at once where it is another (under with_reducible). -/
theorem at_world {P : Program} {ops : Array Oper} {o : Oper} {a : Act} {K : Act → World → Prop} {Q : Exit → Act → World → Prop} {E : Prop} (w : World) (h : if Region.wanted o (yielded ops a.tmps) = true then Oper.wp P o a w K Q else E) : if Region.wanted o (yielded ops a.tmps) = true then Oper.wp P o a w K Q else E := h
theorem grown_trans {w w1 w2 : World} {row : Option Nat} (h : w.grownBy w1 row) (k : w1.grownBy w2 row) : w.grownBy w2 row :=
  ⟨k.os.trans h.os, k.tape.trans h.tape, k.output.trans h.output, Nat.le_trans h.size k.size, fun i hi hne => (k.block i (Nat.lt_of_lt_of_le hi h.size) hne).trans (h.block i hi hne)⟩
theorem grown_below {w w1 w2 : World} {row : Option Nat} (h : Below w.heap.size w w1) (k : w1.grownBy w2 row) : w.grownBy w2 row := grown_trans (grown_of_below h row) k
theorem own_drew1 {w : World} {base n : Nat} {e : TypeId} {size : Nat} {v : Value} {xs : List Value} (h : w.ownsRow base e size v n xs) : w.drew.ownsRow base e size v n xs := h
theorem Rd.drew1 {w : World} {A : Option Addr} {n : Nat} {xs : List Value} (h : Rd w A n xs) : Rd w.drew A n xs := h
def findR (n : Nat) : Code → Option Code
  | .region id ops d => if id = n then some (.region id ops d) else none
  | .loop c => findR n c
  | .seq a b => match findR n a with
    | some c => some c
    | none => findR n b
  | .block _ c => findR n c
  | .scope c => findR n c
  | .cond _ a b => match findR n a with
    | some c => some c
    | none => findR n b
  | _ => none
end Go.Proofs.YtclkgflficlmiaaDoor
end

/-! ## OwnK -/
section
set_option linter.unusedVariables false
namespace Go.Proofs.YtclkgflficlmiaaDoor
open Go Go.RowKit
/-- A row of the call's own whose elements are xs, of kind d. -/
def RK.Own {α : Type} (d : RK α) (S : Nat → Prop) (w : World) (base : Nat) (e : TypeId) (v : Value) (n : Nat) (xs : List α) : Prop :=
  xs.length = n ∧ ∃ cells : List Value, w.ownsRow base e d.sz v n cells ∧ ∀ i x, xs[i]? = some x → ∃ cs, d.K S w x cs ∧ ∀ j u, cs[j]? = some u → cells[i * d.sz + j]? = some u
namespace RK
section
variable {α : Type} {d : RK α} {S : Nat → Prop} {w w' : World} {base n : Nat} {e : TypeId} {v : Value} {xs : List α}
theorem Own.nil (d : RK α) (S : Nat → Prop) (w : World) (base : Nat) (e : TypeId) : d.Own S w base e (.slice none 0 0) 0 [] := ⟨rfl, [], World.ownsRow_nil _ _ _ _, fun i x h => by simp at h⟩
theorem Own.len (h : d.Own S w base e v n xs) : xs.length = n := h.1
theorem Own.slice_ (h : d.Own S w base e v n xs) : ∃ A c, v = .slice A n c := by
  obtain ⟨_, cells, h2, _⟩ := h
  exact own_slice h2
theorem Own.lt (h : d.Own S w base e v n xs) : ∀ k, v.ownBlock = some k → base ≤ k ∧ k < w.heap.size := by
  obtain ⟨_, cells, h2, _⟩ := h
  exact h2.lt
theorem Own.max_ (h : d.Own S w base e v n xs) : n ≤ maxLen := by
  obtain ⟨_, cells, h2, _⟩ := h
  exact own_max h2
theorem Own.le_ {A : Option Addr} {c : Nat} (h : d.Own S w base e (.slice A n c) n xs) : n ≤ c ∧ c ≤ maxLen := by
  obtain ⟨_, cells, h2, _⟩ := h
  exact own_le h2
theorem Own.base_ {base' : Nat} (h : d.Own S w base e v n xs) (hb : base' ≤ base) : d.Own S w base' e v n xs := by
  obtain ⟨h1, cells, h2, h3⟩ := h
  exact ⟨h1, cells, own_mono h2 hb, h3⟩
theorem Own.below (h : d.Own S w base e v n xs) (hb : Below w.heap.size w w') : d.Own S w' base e v n xs := by
  obtain ⟨h1, cells, h2, h3⟩ := h
  refine ⟨h1, cells, own_below h2 hb, fun i x hx => ?_⟩
  obtain ⟨cs, hK, hcs⟩ := h3 i x hx
  exact ⟨cs, K_below hK hb, hcs⟩
theorem Own.alloc (h : d.Own S w base e v n xs) (o : Obj) : d.Own S (w.alloc o) base e v n xs := h.below ((Below.refl _ _).alloc (Nat.le_refl _) _)
/-- It reads as xs. -/
theorem Own.C_ {S' : Nat → Prop} {A : Option Addr} {c : Nat} (h : d.Own S w base e (.slice A n c) n xs) (hS : ∀ k, S k → S' k) (hA : ∀ b, (Value.slice A n c).ownBlock = some b → S' b) : d.C S' w A n xs := by
  obtain ⟨h1, cells, h2, h3⟩ := h
  refine ⟨h1, fun hn => ?_⟩
  obtain ⟨g, cap, hv, hbg, hlt⟩ := h2.form hn
  obtain rfl : A = some ⟨g, 0, none⟩ := by injection hv
  refine ⟨g, 0, rfl, hA g rfl, hlt, fun i x hx => ?_⟩
  obtain ⟨cs, hK, hcs⟩ := h3 i x hx
  refine ⟨cs, d.mono hS hK, fun j u hu => ?_⟩
  have := h2.cells (g := g) rfl _ u (hcs j u hu)
  rw [add_plain] at this
  rw [Nat.zero_add]
  exact this
end
/-- The cells of what a slice reads as. -/
theorem cells_of {α : Type} (d : RK α) (S : Nat → Prop) (w : World) (b : Nat) : ∀ (ys : List α) (o : Nat), (∀ i x, ys[i]? = some x → ∃ cs, d.K S w x cs ∧ ∀ j v, cs[j]? = some v → w.cell? ⟨b, o + i * d.sz + j, none⟩ = some v) →
    ∃ cells : List Value, cells.length = ys.length * d.sz ∧ (∀ u ∈ cells, u.oneCell' = true) ∧ (∀ i x, ys[i]? = some x → ∃ cs, d.K S w x cs ∧ ∀ j u, cs[j]? = some u → cells[i * d.sz + j]? = some u) ∧ ∀ j u, cells[j]? = some u → w.cell? ⟨b, o + j, none⟩ = some u
  | [], o, _ => ⟨[], by simp, (fun u hu => by cases hu), (fun i x h => by simp at h), (fun j u h => by simp at h)⟩
  | y :: ys, o, h => by
    obtain ⟨c0, hK0, hc0⟩ := h 0 y rfl
    obtain ⟨cells, hl, h1, h2, h3⟩ := cells_of d S w b ys (o + d.sz) (fun i x hx => by
      obtain ⟨cs, hK, hcs⟩ := h (i + 1) x (by simpa using hx)
      refine ⟨cs, hK, fun j v hv => ?_⟩
      rw [show o + d.sz + i * d.sz + j = o + (i + 1) * d.sz + j by rw [Nat.add_mul]; omega]
      exact hcs j v hv)
    have hl0 := d.len hK0
    refine ⟨c0 ++ cells, ?_, ?_, ?_, ?_⟩
    · rw [List.length_append, hl, hl0, List.length_cons, Nat.add_mul]; omega
    · intro u hu
      rcases List.mem_append.1 hu with hu | hu
      · exact d.one hK0 u hu
      · exact h1 u hu
    · intro i x hx
      rcases i with _ | i
      · obtain rfl : y = x := by simpa using hx
        refine ⟨c0, hK0, fun j u hu => ?_⟩
        have hj : j < c0.length := (List.getElem?_eq_some_iff.1 hu).1
        rw [Nat.zero_mul, Nat.zero_add, List.getElem?_append_left hj]
        exact hu
      · obtain ⟨cs, hK, hcs⟩ := h2 i x (by simpa using hx)
        refine ⟨cs, hK, fun j u hu => ?_⟩
        rw [show (i + 1) * d.sz + j = c0.length + (i * d.sz + j) by rw [hl0, Nat.add_mul]; omega, List.getElem?_append_right (by omega), Nat.add_sub_cancel_left]
        exact hcs j u hu
    · intro j u hu
      rcases Nat.lt_or_ge j c0.length with hj | hj
      · rw [List.getElem?_append_left hj] at hu
        have := hc0 j u hu
        rwa [Nat.zero_mul, Nat.add_zero] at this
      · rw [List.getElem?_append_right hj] at hu
        have := h3 _ u hu
        rwa [show o + d.sz + (j - c0.length) = o + j by omega] at this
section
variable {P : Program} {α : Type} (d : RK α) (w : World)
theorem run_appK (S : Nat → Prop) (base : Nat) (t ty e : TypeId) (z : Value) (bytes : Nat) (ht : P.underlying t = some (.slice e)) (hinfo : (P.info? e).map (fun i => (i.zero, i.size, i.bytes)) = some (some z, d.sz, bytes)) (hzs : z.cells.size = d.sz) (hsz : 0 < d.sz)
    (v : Value) (n : Nat) (xs : List α) (hown : d.Own S w base e v n xs) (hS : ∀ k, S k → some k ≠ v.ownBlock)
    (A : Option Addr) (m c : Nat) (ys : List α) (S2 : Nat → Prop) (hr : d.C S2 w A m ys) (hSS : ∀ x cs, d.K S2 w x cs → d.K S w x cs)
    (h63 : n + m ≤ maxLen) (hbytes : (n + m) * bytes ≤ 140737488355328) (hbase : base ≤ w.heap.size) :
    ∃ A' c' w', (Builtin.append_ #[t, t] ty #[v, .slice A m c]).run P w = .ok (.slice A' (n + m) c') w' ∧ d.Own S w' base e (.slice A' (n + m) c') (n + m) (xs ++ ys) ∧ w.grownBy w' v.ownBlock ∧
      ((Value.slice A' (n + m) c').ownBlock = v.ownBlock ∨ (Value.slice A' (n + m) c').ownBlock = some w.heap.size) := by
  obtain ⟨hl, cells, how, hcells⟩ := hown
  obtain ⟨i, hi, hz, hsize, hby⟩ : ∃ i, P.info? e = some i ∧ i.zero = some z ∧ i.size = d.sz ∧ i.bytes = bytes := by
    cases h : P.info? e with
    | none => rw [h] at hinfo; cases hinfo
    | some i => rw [h] at hinfo; simp only [Option.map_some, Option.some.injEq, Prod.mk.injEq] at hinfo; exact ⟨i, rfl, hinfo.1, hinfo.2.1, hinfo.2.2⟩
  have fin : ∀ v' w' (news : List Value), (Builtin.append_ #[t, t] ty #[v, .slice A m c]).run P w = .ok v' w' → w'.ownsRow base e d.sz v' (n + m) (cells ++ news) → w.grownBy w' v.ownBlock → (v'.ownBlock = v.ownBlock ∨ v'.ownBlock = some w.heap.size) →
      (∀ i x, ys[i]? = some x → ∃ cs, d.K S w x cs ∧ ∀ j u, cs[j]? = some u → news[i * d.sz + j]? = some u) →
      ∃ A' c' w', (Builtin.append_ #[t, t] ty #[v, .slice A m c]).run P w = .ok (.slice A' (n + m) c') w' ∧ d.Own S w' base e (.slice A' (n + m) c') (n + m) (xs ++ ys) ∧ w.grownBy w' v.ownBlock ∧
      ((Value.slice A' (n + m) c').ownBlock = v.ownBlock ∨ (Value.slice A' (n + m) c').ownBlock = some w.heap.size) := by
    intro v' w' news h1 h2 h3 h4 h5
    obtain ⟨A', c', rfl⟩ := own_slice h2
    have hm : ∀ k, S k → k < w.heap.size → w'.heap[k]? = w.heap[k]? := fun k hk hlt => h3.block k hlt (hS k hk)
    refine ⟨A', c', w', h1, ⟨by rw [List.length_append, hl, hr.1], cells ++ news, h2, fun i x hx => ?_⟩, h3, h4⟩
    have hcl : cells.length = n * d.sz := how.1
    rcases Nat.lt_or_ge i n with hin | hin
    · rw [List.getElem?_append_left (by omega)] at hx
      obtain ⟨cs, hK, hcs⟩ := hcells i x hx
      refine ⟨cs, d.move hm hK, fun j u hu => ?_⟩
      have := hcs j u hu
      rw [List.getElem?_append_left (List.getElem?_eq_some_iff.1 this).1]
      exact this
    · rw [List.getElem?_append_right (by omega), hl] at hx
      obtain ⟨cs, hK, hcs⟩ := h5 _ x hx
      refine ⟨cs, d.move hm hK, fun j u hu => ?_⟩
      have := hcs j u hu
      have hmul : i * d.sz = n * d.sz + (i - n) * d.sz := by rw [← Nat.add_mul]; congr 1; omega
      rw [hmul, Nat.add_assoc, List.getElem?_append_right (by omega), hcl, Nat.add_sub_cancel_left]
      exact this
  rcases Nat.eq_zero_or_pos m with h0 | h0
  · subst h0
    have hn : ys = [] := List.eq_nil_of_length_eq_zero hr.1
    subst hn
    rcases A with _ | ad
    · refine fin v w [] ?_ (by simpa using how) (World.grownBy.refl w _) (.inl rfl) (fun i x h => by simp at h)
      rcases how.2 with ⟨rfl, rfl⟩ | ⟨g, cap, cur, rfl, _, _, hnc, _⟩
      · simp [Builtin.append_, run_underlying ht, sizeOf, typeInfo, hi, Builtin.lenOf, Builtin.firstCells]
      · simp [Builtin.append_, run_underlying ht, sizeOf, typeInfo, hi, Builtin.lenOf, Builtin.firstCells, hnc, storeCells]
    · obtain ⟨v', w', hrun, h2, h3, _, h5⟩ := run_append_own_at (P := P) w base t ty e i z d.sz bytes ht hi hz hsize hby hzs hsz v n cells how ad 0 c [] (by simp) (fun j u hu => by simp at hu) (fun u hu => by cases hu) h63 hbytes hbase
      exact fin v' w' [] hrun h2 h3 h5 (fun i x h => by simp at h)
  · obtain ⟨b, o, rfl, _, _, hc⟩ := hr.2 h0
    obtain ⟨news, hnl, hn1, hn2, hn3⟩ := cells_of d S w b ys o (fun i x hx => by
      obtain ⟨cs, hK, hcs⟩ := hc i x hx
      exact ⟨cs, hSS x cs hK, hcs⟩)
    obtain ⟨v', w', hrun, h2, h3, _, h5⟩ := run_append_own_at (P := P) w base t ty e i z d.sz bytes ht hi hz hsize hby hzs hsz v n cells how ⟨b, o, none⟩ m c news (by rw [hnl, hr.1])
      (fun j u hu => by rw [add_plain']; exact hn3 j u hu) hn1 h63 hbytes hbase
    exact fin v' w' news hrun h2 h3 h5 hn2
theorem wp_appK {o : Oper} {a : Act} {K : Act → World → Prop} {Q : Exit → Act → World → Prop} (s x : Operand) (t : TypeId)
    (ho : o.op = .call { callee := .builtin .append, args := #[s, x], argTypes := #[t, t] })
    (S : Nat → Prop) (base : Nat) (e : TypeId) (z : Value) (bytes : Nat) (ht : P.underlying t = some (.slice e)) (hinfo : (P.info? e).map (fun i => (i.zero, i.size, i.bytes)) = some (some z, d.sz, bytes)) (hzs : z.cells.size = d.sz) (hsz : 0 < d.sz)
    (v : Value) (n : Nat) (xs : List α) (hs : a.eval s = v) (hown : d.Own S w base e v n xs) (hS : ∀ k, S k → some k ≠ v.ownBlock)
    (A : Option Addr) (m c : Nat) (ys : List α) (hx : a.eval x = .slice A m c) (S2 : Nat → Prop) (hr : d.C S2 w A m ys) (hSS : ∀ x cs, d.K S2 w x cs → d.K S w x cs)
    (N : Nat) (zs : List α) (hN : n + m = N) (hzz : xs ++ ys = zs)
    (h63 : N ≤ maxLen) (hbytes : N * bytes ≤ 140737488355328) (hbase : base ≤ w.heap.size)
    (h : ∀ A' c' w', d.Own S w' base e (.slice A' N c') N zs → w.grownBy w' v.ownBlock → ((Value.slice A' N c').ownBlock = v.ownBlock ∨ (Value.slice A' N c').ownBlock = some w.heap.size) → K (a.put o.dst (.slice A' N c')) w') : o.wp P a w K Q := by
  subst hN
  subst hzz
  obtain ⟨A', c', w', hrun, h2, h3, h4⟩ := run_appK (P := P) d w S base t o.type e z bytes ht hinfo hzs hsz v n xs hown hS A m c ys S2 hr hSS h63 hbytes hbase
  unfold Oper.wp execOp
  simp only [ho, resolve, invoke, builtin, Sem.run_bind, Sem.run_pure, Result.andThen_ok, List.map_toArray, List.map_cons, List.map_nil, hs, hx, hrun]
  exact h A' c' w' h2 h3 h4
theorem wpList_appK {ops : Array Oper} {rest : List Oper} {o : Oper} {a : Act} {Q : Exit → Act → World → Prop} (hgd : o.guard = none) (s x : Operand) (t : TypeId)
    (ho : o.op = .call { callee := .builtin .append, args := #[s, x], argTypes := #[t, t] })
    (S : Nat → Prop) (base : Nat) (e : TypeId) (z : Value) (bytes : Nat) (ht : P.underlying t = some (.slice e)) (hinfo : (P.info? e).map (fun i => (i.zero, i.size, i.bytes)) = some (some z, d.sz, bytes)) (hzs : z.cells.size = d.sz) (hsz : 0 < d.sz)
    (v : Value) (n : Nat) (xs : List α) (hs : a.eval s = v) (hown : d.Own S w base e v n xs) (hS : ∀ k, S k → some k ≠ v.ownBlock)
    (A : Option Addr) (m c : Nat) (ys : List α) (hx : a.eval x = .slice A m c) (S2 : Nat → Prop) (hr : d.C S2 w A m ys) (hSS : ∀ x cs, d.K S2 w x cs → d.K S w x cs)
    (N : Nat) (zs : List α) (hN : n + m = N) (hzz : xs ++ ys = zs)
    (h63 : N ≤ maxLen) (hbytes : N * bytes ≤ 140737488355328) (hbase : base ≤ w.heap.size)
    (h : ∀ A' c' w', d.Own S w' base e (.slice A' N c') N zs → w.grownBy w' v.ownBlock → ((Value.slice A' N c').ownBlock = v.ownBlock ∨ (Value.slice A' N c').ownBlock = some w.heap.size) → wpList P ops Q rest (a.put o.dst (.slice A' N c')) w') : wpList P ops Q (o :: rest) a w :=
  wpList_plain hgd fun _ hK => wp_appK d w s x t ho S base e z bytes ht hinfo hzs hsz v n xs hs hown hS A m c ys hx S2 hr hSS N zs hN hzz h63 hbytes hbase fun A' c' w' h2 h3 h4 => hK _ _ (h A' c' w' h2 h3 h4)
theorem step_appK {ops : Array Oper} {o : Oper} {a : Act} {K : Act → World → Prop} {Q : Exit → Act → World → Prop} {E : Prop} (hgd : o.guard = none) (s x : Operand) (t : TypeId)
    (ho : o.op = .call { callee := .builtin .append, args := #[s, x], argTypes := #[t, t] })
    (S : Nat → Prop) (base : Nat) (e : TypeId) (z : Value) (bytes : Nat) (ht : P.underlying t = some (.slice e)) (hinfo : (P.info? e).map (fun i => (i.zero, i.size, i.bytes)) = some (some z, d.sz, bytes)) (hzs : z.cells.size = d.sz) (hsz : 0 < d.sz)
    (v : Value) (n : Nat) (xs : List α) (hs : a.eval s = v) (hown : d.Own S w base e v n xs) (hS : ∀ k, S k → some k ≠ v.ownBlock)
    (A : Option Addr) (m c : Nat) (ys : List α) (hx : a.eval x = .slice A m c) (S2 : Nat → Prop) (hr : d.C S2 w A m ys) (hSS : ∀ x cs, d.K S2 w x cs → d.K S w x cs)
    (N : Nat) (zs : List α) (hN : n + m = N) (hzz : xs ++ ys = zs)
    (h63 : N ≤ maxLen) (hbytes : N * bytes ≤ 140737488355328) (hbase : base ≤ w.heap.size)
    (h : ∀ A' c' w', d.Own S w' base e (.slice A' N c') N zs → w.grownBy w' v.ownBlock → ((Value.slice A' N c').ownBlock = v.ownBlock ∨ (Value.slice A' N c').ownBlock = some w.heap.size) → K (a.put o.dst (.slice A' N c')) w') :
    if Region.wanted o (yielded ops a.tmps) = true then Oper.wp P o a w K Q else E := by
  have hw : Region.wanted o (yielded ops a.tmps) = true := by simp [Region.wanted, hgd]
  rw [if_pos hw]
  exact wp_appK d w s x t ho S base e z bytes ht hinfo hzs hsz v n xs hs hown hS A m c ys hx S2 hr hSS N zs hN hzz h63 hbytes hbase h
end
end RK
end Go.Proofs.YtclkgflficlmiaaDoor
end

/-! ## OwnK2 -/
section
set_option linter.unusedVariables false
namespace Go.Proofs.YtclkgflficlmiaaDoor
open Go Go.RowKit
/-- The operation that stands next is the one that fills slot d: a cheap test ahead of a dear law. -/
theorem wpList_at {P : Program} {ops : Array Oper} {Q : Exit → Act → World → Prop} {rest : List Oper} {a : Act} {w : World} (d : Nat) {op : Op} {ty : TypeId} {pos : String} {after : Array Edge} {g : Option (Nat × Bool)} (h : wpList P ops Q (⟨some d, op, ty, pos, after, g⟩ :: rest) a w) : wpList P ops Q (⟨some d, op, ty, pos, after, g⟩ :: rest) a w := h
/-- The operation that stands next is a store into what x points to. -/
theorem wpList_atS {P : Program} {ops : Array Oper} {Q : Exit → Act → World → Prop} {rest : List Oper} {a : Act} {w : World} (x : Nat) {t : TypeId} {y : Operand} {ty : TypeId} {pos : String} {after : Array Edge} {g : Option (Nat × Bool)} (h : wpList P ops Q (⟨none, .store t (.tmp x) y, ty, pos, after, g⟩ :: rest) a w) : wpList P ops Q (⟨none, .store t (.tmp x) y, ty, pos, after, g⟩ :: rest) a w := h
namespace RK
/-- Elements that lie somewhere (their own block is of no matter), their inner rows in S. -/
def Src {α : Type} (d : RK α) (S : Nat → Prop) (w : World) (A : Option Addr) (m : Nat) (ys : List α) : Prop :=
  ys.length = m ∧ (0 < m → ∃ b o, A = some ⟨b, o, none⟩ ∧ ∀ i x, ys[i]? = some x → ∃ cs, d.K S w x cs ∧ ∀ j v, cs[j]? = some v → w.cell? ⟨b, o + i * d.sz + j, none⟩ = some v)
theorem Src.one {α : Type} {d : RK α} {S : Nat → Prop} {w : World} {g : Nat} {t : TypeId} {fz : Nat × Nat} {x : α} {cs : List Value} (h : w.heap[g]? = some (.cells cs.toArray t fz)) (hK : d.K S w x cs) : d.Src S w (some ⟨g, 0, none⟩) 1 [x] := by
  refine ⟨rfl, fun _ => ⟨g, 0, rfl, fun i y hy => ?_⟩⟩
  obtain rfl : i = 0 := by have := (List.getElem?_eq_some_iff.1 hy).1; simp at this; omega
  obtain rfl : x = y := by simpa using hy
  refine ⟨cs, hK, fun j v hv => ?_⟩
  rw [show 0 + 0 * d.sz + j = j by omega]
  exact blk_cell h (by rw [List.getElem?_toArray]; exact hv)
theorem C.src {α : Type} {d : RK α} {S : Nat → Prop} {w : World} {A : Option Addr} {m : Nat} {ys : List α} (h : d.C S w A m ys) : d.Src S w A m ys :=
  ⟨h.1, fun hm => by obtain ⟨b, o, hA, _, _, hc⟩ := h.2 hm; exact ⟨b, o, hA, hc⟩⟩
theorem Src.mono {α : Type} {d : RK α} {S S' : Nat → Prop} {w : World} {A : Option Addr} {m : Nat} {ys : List α} (h : d.Src S w A m ys) (hS : ∀ k, S k → S' k) : d.Src S' w A m ys :=
  ⟨h.1, fun hm => by obtain ⟨b, o, hA, hc⟩ := h.2 hm; exact ⟨b, o, hA, fun i x hx => by obtain ⟨cs, hK, hcs⟩ := hc i x hx; exact ⟨cs, d.mono hS hK, hcs⟩⟩⟩
section
variable {P : Program} {α : Type} (d : RK α) (w : World)
theorem run_appK' (S : Nat → Prop) (base : Nat) (t ty e : TypeId) (z : Value) (bytes : Nat) (ht : P.underlying t = some (.slice e)) (hinfo : (P.info? e).map (fun i => (i.zero, i.size, i.bytes)) = some (some z, d.sz, bytes)) (hzs : z.cells.size = d.sz) (hsz : 0 < d.sz)
    (v : Value) (n : Nat) (xs : List α) (hown : d.Own S w base e v n xs) (hS : ∀ k, S k → some k ≠ v.ownBlock)
    (A : Option Addr) (m c : Nat) (ys : List α) (hr : d.Src S w A m ys)
    (h63 : n + m ≤ maxLen) (hbytes : (n + m) * bytes ≤ 140737488355328) (hbase : base ≤ w.heap.size) :
    ∃ A' c' w', (Builtin.append_ #[t, t] ty #[v, .slice A m c]).run P w = .ok (.slice A' (n + m) c') w' ∧ d.Own S w' base e (.slice A' (n + m) c') (n + m) (xs ++ ys) ∧ w.grownBy w' v.ownBlock ∧
      ((Value.slice A' (n + m) c').ownBlock = v.ownBlock ∨ (Value.slice A' (n + m) c').ownBlock = some w.heap.size) := by
  obtain ⟨hl, cells, how, hcells⟩ := hown
  obtain ⟨i, hi, hz, hsize, hby⟩ : ∃ i, P.info? e = some i ∧ i.zero = some z ∧ i.size = d.sz ∧ i.bytes = bytes := by
    cases h : P.info? e with
    | none => rw [h] at hinfo; cases hinfo
    | some i => rw [h] at hinfo; simp only [Option.map_some, Option.some.injEq, Prod.mk.injEq] at hinfo; exact ⟨i, rfl, hinfo.1, hinfo.2.1, hinfo.2.2⟩
  have fin : ∀ v' w' (news : List Value), (Builtin.append_ #[t, t] ty #[v, .slice A m c]).run P w = .ok v' w' → w'.ownsRow base e d.sz v' (n + m) (cells ++ news) → w.grownBy w' v.ownBlock → (v'.ownBlock = v.ownBlock ∨ v'.ownBlock = some w.heap.size) →
      (∀ i x, ys[i]? = some x → ∃ cs, d.K S w x cs ∧ ∀ j u, cs[j]? = some u → news[i * d.sz + j]? = some u) →
      ∃ A' c' w', (Builtin.append_ #[t, t] ty #[v, .slice A m c]).run P w = .ok (.slice A' (n + m) c') w' ∧ d.Own S w' base e (.slice A' (n + m) c') (n + m) (xs ++ ys) ∧ w.grownBy w' v.ownBlock ∧
      ((Value.slice A' (n + m) c').ownBlock = v.ownBlock ∨ (Value.slice A' (n + m) c').ownBlock = some w.heap.size) := by
    intro v' w' news h1 h2 h3 h4 h5
    obtain ⟨A', c', rfl⟩ := own_slice h2
    have hm : ∀ k, S k → k < w.heap.size → w'.heap[k]? = w.heap[k]? := fun k hk hlt => h3.block k hlt (hS k hk)
    refine ⟨A', c', w', h1, ⟨by rw [List.length_append, hl, hr.1], cells ++ news, h2, fun i x hx => ?_⟩, h3, h4⟩
    have hcl : cells.length = n * d.sz := how.1
    rcases Nat.lt_or_ge i n with hin | hin
    · rw [List.getElem?_append_left (by omega)] at hx
      obtain ⟨cs, hK, hcs⟩ := hcells i x hx
      refine ⟨cs, d.move hm hK, fun j u hu => ?_⟩
      have := hcs j u hu
      rw [List.getElem?_append_left (List.getElem?_eq_some_iff.1 this).1]
      exact this
    · rw [List.getElem?_append_right (by omega), hl] at hx
      obtain ⟨cs, hK, hcs⟩ := h5 _ x hx
      refine ⟨cs, d.move hm hK, fun j u hu => ?_⟩
      have := hcs j u hu
      have hmul : i * d.sz = n * d.sz + (i - n) * d.sz := by rw [← Nat.add_mul]; congr 1; omega
      rw [hmul, Nat.add_assoc, List.getElem?_append_right (by omega), hcl, Nat.add_sub_cancel_left]
      exact this
  rcases Nat.eq_zero_or_pos m with h0 | h0
  · subst h0
    have hn : ys = [] := List.eq_nil_of_length_eq_zero hr.1
    subst hn
    rcases A with _ | ad
    · refine fin v w [] ?_ (by simpa using how) (World.grownBy.refl w _) (.inl rfl) (fun i x h => by simp at h)
      rcases how.2 with ⟨rfl, rfl⟩ | ⟨g, cap, cur, rfl, _, _, hnc, _⟩
      · simp [Builtin.append_, run_underlying ht, sizeOf, typeInfo, hi, Builtin.lenOf, Builtin.firstCells]
      · simp [Builtin.append_, run_underlying ht, sizeOf, typeInfo, hi, Builtin.lenOf, Builtin.firstCells, hnc, storeCells]
    · obtain ⟨v', w', hrun, h2, h3, _, h5⟩ := run_append_own_at (P := P) w base t ty e i z d.sz bytes ht hi hz hsize hby hzs hsz v n cells how ad 0 c [] (by simp) (fun j u hu => by simp at hu) (fun u hu => by cases hu) h63 hbytes hbase
      exact fin v' w' [] hrun h2 h3 h5 (fun i x h => by simp at h)
  · obtain ⟨b, o, rfl, hc⟩ := hr.2 h0
    obtain ⟨news, hnl, hn1, hn2, hn3⟩ := cells_of d S w b ys o hc
    obtain ⟨v', w', hrun, h2, h3, _, h5⟩ := run_append_own_at (P := P) w base t ty e i z d.sz bytes ht hi hz hsize hby hzs hsz v n cells how ⟨b, o, none⟩ m c news (by rw [hnl, hr.1])
      (fun j u hu => by rw [add_plain']; exact hn3 j u hu) hn1 h63 hbytes hbase
    exact fin v' w' news hrun h2 h3 h5 hn2
theorem wp_appK' {o : Oper} {a : Act} {K : Act → World → Prop} {Q : Exit → Act → World → Prop} (s x : Operand) (t : TypeId)
    (ho : o.op = .call { callee := .builtin .append, args := #[s, x], argTypes := #[t, t] })
    (S : Nat → Prop) (base : Nat) (e : TypeId) (z : Value) (bytes : Nat) (ht : P.underlying t = some (.slice e)) (hinfo : (P.info? e).map (fun i => (i.zero, i.size, i.bytes)) = some (some z, d.sz, bytes)) (hzs : z.cells.size = d.sz) (hsz : 0 < d.sz)
    (v : Value) (n : Nat) (xs : List α) (hs : a.eval s = v) (hown : d.Own S w base e v n xs) (hS : ∀ k, S k → some k ≠ v.ownBlock)
    (A : Option Addr) (m c : Nat) (ys : List α) (hx : a.eval x = .slice A m c) (hr : d.Src S w A m ys)
    (N : Nat) (zs : List α) (hN : n + m = N) (hzz : xs ++ ys = zs)
    (h63 : N ≤ maxLen) (hbytes : N * bytes ≤ 140737488355328) (hbase : base ≤ w.heap.size)
    (h : ∀ A' c' w', d.Own S w' base e (.slice A' N c') N zs → w.grownBy w' v.ownBlock → ((Value.slice A' N c').ownBlock = v.ownBlock ∨ (Value.slice A' N c').ownBlock = some w.heap.size) → K (a.put o.dst (.slice A' N c')) w') : o.wp P a w K Q := by
  subst hN
  subst hzz
  obtain ⟨A', c', w', hrun, h2, h3, h4⟩ := run_appK' (P := P) d w S base t o.type e z bytes ht hinfo hzs hsz v n xs hown hS A m c ys hr h63 hbytes hbase
  unfold Oper.wp execOp
  simp only [ho, resolve, invoke, builtin, Sem.run_bind, Sem.run_pure, Result.andThen_ok, List.map_toArray, List.map_cons, List.map_nil, hs, hx, hrun]
  exact h A' c' w' h2 h3 h4
theorem wpList_appK' {ops : Array Oper} {rest : List Oper} {o : Oper} {a : Act} {Q : Exit → Act → World → Prop} (hgd : o.guard = none) (s x : Operand) (t : TypeId)
    (ho : o.op = .call { callee := .builtin .append, args := #[s, x], argTypes := #[t, t] })
    (S : Nat → Prop) (base : Nat) (e : TypeId) (z : Value) (bytes : Nat) (ht : P.underlying t = some (.slice e)) (hinfo : (P.info? e).map (fun i => (i.zero, i.size, i.bytes)) = some (some z, d.sz, bytes)) (hzs : z.cells.size = d.sz) (hsz : 0 < d.sz)
    (v : Value) (n : Nat) (xs : List α) (hs : a.eval s = v) (hown : d.Own S w base e v n xs) (hS : ∀ k, S k → some k ≠ v.ownBlock)
    (A : Option Addr) (m c : Nat) (ys : List α) (hx : a.eval x = .slice A m c) (hr : d.Src S w A m ys)
    (N : Nat) (zs : List α) (hN : n + m = N) (hzz : xs ++ ys = zs)
    (h63 : N ≤ maxLen) (hbytes : N * bytes ≤ 140737488355328) (hbase : base ≤ w.heap.size)
    (h : ∀ A' c' w', d.Own S w' base e (.slice A' N c') N zs → w.grownBy w' v.ownBlock → ((Value.slice A' N c').ownBlock = v.ownBlock ∨ (Value.slice A' N c').ownBlock = some w.heap.size) → wpList P ops Q rest (a.put o.dst (.slice A' N c')) w') : wpList P ops Q (o :: rest) a w :=
  wpList_plain hgd fun _ hK => wp_appK' d w s x t ho S base e z bytes ht hinfo hzs hsz v n xs hs hown hS A m c ys hx hr N zs hN hzz h63 hbytes hbase fun A' c' w' h2 h3 h4 => hK _ _ (h A' c' w' h2 h3 h4)
theorem step_appK' {ops : Array Oper} {o : Oper} {a : Act} {K : Act → World → Prop} {Q : Exit → Act → World → Prop} {E : Prop} (hgd : o.guard = none) (s x : Operand) (t : TypeId)
    (ho : o.op = .call { callee := .builtin .append, args := #[s, x], argTypes := #[t, t] })
    (S : Nat → Prop) (base : Nat) (e : TypeId) (z : Value) (bytes : Nat) (ht : P.underlying t = some (.slice e)) (hinfo : (P.info? e).map (fun i => (i.zero, i.size, i.bytes)) = some (some z, d.sz, bytes)) (hzs : z.cells.size = d.sz) (hsz : 0 < d.sz)
    (v : Value) (n : Nat) (xs : List α) (hs : a.eval s = v) (hown : d.Own S w base e v n xs) (hS : ∀ k, S k → some k ≠ v.ownBlock)
    (A : Option Addr) (m c : Nat) (ys : List α) (hx : a.eval x = .slice A m c) (hr : d.Src S w A m ys)
    (N : Nat) (zs : List α) (hN : n + m = N) (hzz : xs ++ ys = zs)
    (h63 : N ≤ maxLen) (hbytes : N * bytes ≤ 140737488355328) (hbase : base ≤ w.heap.size)
    (h : ∀ A' c' w', d.Own S w' base e (.slice A' N c') N zs → w.grownBy w' v.ownBlock → ((Value.slice A' N c').ownBlock = v.ownBlock ∨ (Value.slice A' N c').ownBlock = some w.heap.size) → K (a.put o.dst (.slice A' N c')) w') :
    if Region.wanted o (yielded ops a.tmps) = true then Oper.wp P o a w K Q else E := by
  have hw : Region.wanted o (yielded ops a.tmps) = true := by simp [Region.wanted, hgd]
  rw [if_pos hw]
  exact wp_appK' d w s x t ho S base e z bytes ht hinfo hzs hsz v n xs hs hown hS A m c ys hx hr N zs hN hzz h63 hbytes hbase h
end
theorem Own.grownS {α : Type} {d : RK α} {S : Nat → Prop} {w w' : World} {base n : Nat} {e : TypeId} {v : Value} {xs : List α} {row : Option Nat} (h : d.Own S w base e v n xs) (hg : w.grownBy w' row) (hne : ∀ k, row = some k → k < base ∧ ¬ S k) : d.Own S w' base e v n xs := by
  obtain ⟨h1, cells, h2, h3⟩ := h
  refine ⟨h1, cells, ?_, fun i x hx => ?_⟩
  · refine ⟨h2.1, ?_⟩
    rcases h2.2 with ⟨hv, h0⟩ | ⟨g, cap, cur, hv, hb, hgg, hrest⟩
    · exact .inl ⟨hv, h0⟩
    · refine .inr ⟨g, cap, cur, hv, hb, ?_, hrest⟩
      exact (hg.block g (heap_lt hgg) (fun e => by have := (hne g e.symm).1; omega)).trans hgg
  · obtain ⟨cs, hK, hcs⟩ := h3 i x hx
    exact ⟨cs, d.move (fun k hk hlt => hg.block k hlt (fun e => (hne k e.symm).2 hk)) hK, hcs⟩
end RK
end Go.Proofs.YtclkgflficlmiaaDoor
end

/-! ## Gen0 -/
section
set_option maxRecDepth 100000
set_option linter.unusedVariables false
namespace Go.Proofs.YtclkgflficlmiaaDoor
open Go Go.RowKit
def zeros32 : List Int := List.replicate 32 0
theorem rd_cut (w : World) (A : Option Addr) (n c m : Nat) (xs : List Value) (h : Rd w A n xs) (hm : m ≤ n) (hc : n ≤ c) :
    Rd w (if c = m then A else Option.map (fun x => { block := x.block, off := x.off + m }) A) (n - m) (xs.drop m) := by
  rcases Nat.lt_or_ge m n with hl | hl
  · obtain ⟨b, o, rfl, _⟩ := h.2 (by omega)
    have := h.drop_ (c := c) m hm hc
    rw [if_neg (by omega), Option.map_some, add_plain'] at this
    rwa [if_neg (by omega)]
  · obtain rfl : m = n := by omega
    rw [List.drop_eq_nil_of_le (by rw [h.1]; exact Nat.le_refl _), Nat.sub_self]
    exact Rd.nil _ _
def lenV : Value → Nat
  | .slice _ n _ => n
  | _ => 0
theorem info_hash : (Tryd.prog.info? 24).map (·.size) = some 32 := by kernel_rfl
theorem info_u8 : (Tryd.prog.info? 5).map (·.size) = some 1 := by kernel_rfl
theorem info_u8' : ∃ i, Tryd.prog.info? 5 = some i ∧ i.size = 1 := by
  have h := info_u8
  cases hq : Tryd.prog.info? 5 with
  | none => rw [hq] at h; cases h
  | some i => exact ⟨i, rfl, by simpa [hq] using h⟩
theorem range_block {w : World} {g : Nat} {xs : List Value} {t : TypeId} {fz : Nat × Nat} (h : w.heap[g]? = some (.cells xs.toArray t fz)) : w.rangeAt g 0 xs := fun j v hv => by
  rw [Nat.zero_add]
  exact blk_cell h (by simpa using hv)
theorem range_below {w w1 : World} (hb : Below w.heap.size w w1) {b o : Nat} {cs : List Value} (h : w.rangeAt b o cs) : w1.rangeAt b o cs := fun j v hv => cell_below hb (h j v hv)
theorem range_grown {w w1 : World} {row : Option Nat} (hg : w.grownBy w1 row) {b o : Nat} {cs : List Value} (h : w.rangeAt b o cs) (hne : some b ≠ row) : w1.rangeAt b o cs := fun j v hv => by
  have h1 := h j v hv
  have hlt : b < w.heap.size := World.block_lt_of_cell? w _ h1
  exact (cell_move (hg.block b hlt hne)).trans h1
theorem own_empty {w : World} {base : Nat} (e : TypeId) (size : Nat) (hb : base ≤ w.heap.size) : (w.alloc (.cells #[] e)).ownsRow base e size (.slice (some ⟨w.heap.size, 0, none⟩) 0 0) 0 [] :=
  ⟨by simp, .inr ⟨w.heap.size, 0, #[], rfl, hb, heap_alloc_new _ _, Nat.le_refl _, Nat.zero_le _, by simp, by simp⟩⟩
namespace RK
theorem Own.empty {α : Type} (d : RK α) (S : Nat → Prop) {w : World} {base : Nat} (e : TypeId) (hb : base ≤ w.heap.size) : d.Own S (w.alloc (.cells #[] e)) base e (.slice (some ⟨w.heap.size, 0, none⟩) 0 0) 0 [] :=
  ⟨rfl, [], own_empty e d.sz hb, fun i x h => by simp at h⟩
theorem Own.mono_ {α : Type} {d : RK α} {S S' : Nat → Prop} {w : World} {base n : Nat} {e : TypeId} {v : Value} {xs : List α} (h : d.Own S w base e v n xs) (hS : ∀ k, S k → S' k) : d.Own S' w base e v n xs := by
  obtain ⟨h1, cells, h2, h3⟩ := h
  refine ⟨h1, cells, h2, fun i x hx => ?_⟩
  obtain ⟨cs, hK, hcs⟩ := h3 i x hx
  exact ⟨cs, d.mono hS hK, hcs⟩
end RK
section
variable {P : Program}
theorem wpQuiet_load_mid {ops : Array Oper} {rest : List Oper} {o : Oper} {a : Act} {w : World} {Q : Act → Prop} (hgd : o.guard = none) (ty : TypeId) (x : Operand) (ho : o.op = .load ty x)
    (b off : Nat) (hx : a.eval x = .pointer (some ⟨b, off, none⟩)) (cs : List Value) (d : TypeDesc) (hr : w.rangeAt b off cs)
    (hu : P.underlying ty = some d) (hd : d.isRow = true) (hi : (P.info? ty).map (·.size) = some cs.length)
    (h : wpQuiet P ops (fun w' => ∃ n, w' = w.drewN n) Q rest (a.put o.dst (.agg cs.toArray))) : wpQuiet P ops (fun w' => ∃ n, w' = w.drewN n) Q (o :: rest) a :=
  BigFrame.wpQuiet_want (by simp [Region.wanted, hgd]) fun K hK => ⟨_, fun W hW => by
    obtain ⟨n, rfl⟩ := hW
    unfold Oper.quietAt execOp
    have hr' : (w.drewN n).rangeAt b off cs := hr
    simp only [ho, hx, Instr.loadAt, Instr.sureAddr, Sem.run_bind, Sem.run_pure, Result.andThen_ok, run_loadVar_mid (w.drewN n) b off ty cs d hr' hu hd hi]
    exact ⟨rfl, rfl⟩, hK _ h⟩
end
section
variable {P : Program} {ops : Array Oper} {o : Oper} {a : Act} {K : Act → World → Prop} {Q : Exit → Act → World → Prop} {E : Prop} {w : World}
theorem step_store_any (hw : Region.wanted o (yielded ops a.tmps) = true) (ty : TypeId) (x y : Operand) (ho : o.op = .store ty x y)
    (g : Nat) (cells : Array Value) (hx : a.eval x = .pointer (some ⟨g, 0, none⟩)) (hy : a.eval y = .agg cells)
    (t : TypeId) (old : Array Value) (hg : w.heap[g]? = some (.cells old t (0, 0))) (hi : (P.info? ty).map (·.size) = some cells.size)
    (hold : old.size = cells.size) (h1 : cells.all (·.oneCell') = true)
    (h : ∀ w', w'.heap[g]? = some (.cells cells t (0, 0)) → Turned w g w' → K (a.put o.dst undef) w') : if Region.wanted o (yielded ops a.tmps) = true then Oper.wp P o a w K Q else E := by
  rw [if_pos hw]
  exact wp_store_row ty x y ho g cells hx hy t old hg hi hold h1 (h _ (setRow_heap w g old cells t _ hg) (turned_setRow w g cells))
theorem step_copy (hw : Region.wanted o (yielded ops a.tmps) = true) (d s : Operand) (dT sT : TypeId) (ho : o.op = .call { callee := .builtin .copy, args := #[d, s], argTypes := #[dT, sT] })
    (dv sv v : Value) (w' : World) (hd : a.eval d = dv) (hs : a.eval s = sv) (hrun : (Builtin.copy_ #[dT, sT] o.type #[dv, sv]).run P w = .ok v w') (h : K (a.put o.dst v) w') : if Region.wanted o (yielded ops a.tmps) = true then Oper.wp P o a w K Q else E := by
  rw [if_pos hw]
  unfold Oper.wp execOp
  simp only [ho, resolve, invoke, builtin, Sem.run_bind, Sem.run_pure, Result.andThen_ok, List.map_toArray, List.map_cons, List.map_nil, hd, hs, hrun]
  exact h
end
theorem Rd.cut {w : World} {b o n : Nat} {xs : List Value} (h : Rd w (some ⟨b, o, none⟩) n xs) (i m : Nat) (hi : i + m ≤ n) : Rd w (some ⟨b, o + i, none⟩) m ((xs.drop i).take m) := by
  refine ⟨by rw [List.length_take, List.length_drop, h.1]; omega, fun hm => ⟨b, o + i, rfl, fun j u hu => ?_⟩⟩
  obtain ⟨b', o', e, hc⟩ := h.2 (by omega)
  injection e with e
  injection e with e1 e2
  subst e1 e2
  have hj : j < m := by have := (List.getElem?_eq_some_iff.1 hu).1; rw [List.length_take] at this; omega
  rw [List.getElem?_take_of_lt hj, List.getElem?_drop] at hu
  rw [Nat.add_assoc]
  exact hc _ u hu
theorem le4 (bs : List Int) (h : Bytes bs) (hl : bs.length ≤ 4) : 0 ≤ ofLE bs ∧ ofLE bs ≤ 4294967295 := by
  have h1 := ofLE_range bs h
  have h2 : (256 : Nat) ^ bs.length ≤ 256 ^ 4 := Nat.pow_le_pow_right (by decide) hl
  have h3 : (256 : Int) ^ bs.length = ((256 ^ bs.length : Nat) : Int) := by rw [Int.natCast_pow]; rfl
  omega
theorem le4t (bs : List Int) (h : Bytes bs) : 0 ≤ ofLE (bs.take 4) ∧ ofLE (bs.take 4) ≤ 4294967295 := le4 _ (h.take 4) (List.length_take_le _ _)
theorem wrap_i32_range (x : Int) : -2147483648 ≤ IntKind.i32.wrap x ∧ IntKind.i32.wrap x ≤ 2147483647 := by rw [IntKind.wrap_i32]; omega
end Go.Proofs.YtclkgflficlmiaaDoor
end

/-! ## CameTx -/
section
set_option maxRecDepth 100000
namespace Go.Proofs.YtclkgflficlmiaaDoor
open Go Go.ChangeShapes Go.WideShapes Go.ChangeAt Go.RowKit
theorem came_h32 {P : Program} {t e : TypeId} (ht : P.underlying t = some (.array 32 e)) (he : P.underlying e = some (.int .u8)) (hc : P.cellsOf e = 1) (hct : P.cellsOf t = 32) : Came P t (RK.hash 32) :=
  ⟨hct, by show 0 < 32; omega, fun h => by
    obtain ⟨ns, h1, h2, h3⟩ := trod_nums ht he hc hct h
    exact ⟨ns, h2, h1, bytes_of_wf h3⟩⟩
theorem came_point : Came Tryd.prog 64 (RK.pair (RK.hash 32) (RK.int .u32)) :=
  came_struct Tryd.underlying64 (by kernel_rfl) (cameF_cons rfl (came_h32 Tryd.underlying24 Tryd.underlying5 (by kernel_rfl) (by kernel_rfl)) (cameF_one rfl (came_int Tryd.underlying26 (by kernel_rfl))))
theorem came_in : Came Tryd.prog 67 inK :=
  Came.conv (d := inP) (came_struct Tryd.underlying67 (by kernel_rfl) (cameF_cons rfl came_point (cameF_cons rfl (came_str Tryd.underlying9 (by kernel_rfl)) (cameF_cons rfl (came_int Tryd.underlying26 (by kernel_rfl)) (cameF_one rfl (came_slice Tryd.underlying65 (by kernel_rfl) (came_str Tryd.underlying9 (by kernel_rfl)))))))) rfl inP_conv
theorem came_out : Came Tryd.prog 62 outK :=
  Came.conv (d := outP) (came_struct Tryd.underlying62 (by kernel_rfl) (cameF_cons rfl (came_int Tryd.underlying2 (by kernel_rfl)) (cameF_one rfl (came_str Tryd.underlying9 (by kernel_rfl))))) rfl outP_conv
theorem came_tx : Came Tryd.prog 54 txK :=
  Came.conv (d := txP) (came_struct Tryd.underlying54 (by kernel_rfl) (cameF_cons rfl (came_int Tryd.underlying21 (by kernel_rfl)) (cameF_cons rfl (came_slice Tryd.underlying51 (by kernel_rfl) came_in) (cameF_cons rfl (came_slice Tryd.underlying52 (by kernel_rfl) came_out) (cameF_one rfl (came_int Tryd.underlying26 (by kernel_rfl))))))) rfl txP_conv
end Go.Proofs.YtclkgflficlmiaaDoor
end
