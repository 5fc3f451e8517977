/- Kinds: what a value's cells say, on any program; the rows inside lie in blocks that are held still (S). What came in is of a kind. -/
import Derived.Test.YtjlkakggmfmfiaaWords
import Derived.WalkKit
import Derived.ProofKit
import Derived.OpenShut
set_option linter.unusedVariables false
namespace Go.Proofs.Ytjlkakggmfmfiaa
open Go Go.ChangeShapes Go.WideShapes Go.ChangeAt Go.RowKit
structure RK (α : Type) where
  sz : Nat
  K : (Nat → Prop) → World → α → List Value → Prop
  len : ∀ {S w x cs}, K S w x cs → cs.length = sz
  one : ∀ {S w x cs}, K S w x cs → ∀ u ∈ cs, u.oneCell' = true
  move : ∀ {S : Nat → Prop} {w w1 : World} {x cs}, (∀ k, S k → k < w.heap.size → w1.heap[k]? = w.heap[k]?) → K S w x cs → K S w1 x cs
  mono : ∀ {S S' : Nat → Prop} {w x cs}, (∀ k, S k → S' k) → K S w x cs → K S' w x cs
/-- A slice (its address A, its length n) that reads as xs. -/
def RK.C {α : Type} (d : RK α) (S : Nat → Prop) (w : World) (A : Option Addr) (n : Nat) (xs : List α) : Prop :=
  xs.length = n ∧ (0 < n → ∃ b o, A = some ⟨b, o, none⟩ ∧ S b ∧ b < w.heap.size ∧ ∀ i x, xs[i]? = some x → ∃ cs, d.K S w x cs ∧ ∀ j v, cs[j]? = some v → w.cell? ⟨b, o + i * d.sz + j, none⟩ = some v)
theorem cell_move {w w1 : World} {b i : Nat} (h : w1.heap[b]? = w.heap[b]?) : w1.cell? ⟨b, i, none⟩ = w.cell? ⟨b, i, none⟩ := by
  simp only [World.cell?, h]
namespace RK
section
variable {α : Type} {d : RK α} {S S' : Nat → Prop} {w w1 : World} {A : Option Addr} {n : Nat} {xs : List α}
theorem C.move (h : d.C S w A n xs) (hm : ∀ k, S k → k < w.heap.size → w1.heap[k]? = w.heap[k]?) : d.C S w1 A n xs := by
  refine ⟨h.1, fun hn => ?_⟩
  obtain ⟨b, o, hA, hS, hb, hc⟩ := h.2 hn
  have hbb := hm b hS hb
  refine ⟨b, o, hA, hS, ?_, fun i x hx => ?_⟩
  · have h2 : b < w.heap.size := hb
    have h3 : w.heap[b]? = some w.heap[b] := Array.getElem?_eq_getElem h2
    rw [h3] at hbb
    exact (Array.getElem?_eq_some_iff.1 hbb).1
  · obtain ⟨cs, hK, hcs⟩ := hc i x hx
    exact ⟨cs, d.move hm hK, fun j v hv => (cell_move hbb).trans (hcs j v hv)⟩
theorem C.mono (h : d.C S w A n xs) (hm : ∀ k, S k → S' k) : d.C S' w A n xs := by
  refine ⟨h.1, fun hn => ?_⟩
  obtain ⟨b, o, hA, hS, hb, hc⟩ := h.2 hn
  exact ⟨b, o, hA, hm _ hS, hb, fun i x hx => by obtain ⟨cs, hK, hcs⟩ := hc i x hx; exact ⟨cs, d.mono hm hK, hcs⟩⟩
theorem C.nil (d : RK α) (S : Nat → Prop) (w : World) (A : Option Addr) : d.C S w A 0 [] := ⟨rfl, fun h => absurd h (by omega)⟩
theorem C.len (h : d.C S w A n xs) : xs.length = n := h.1
/-- Element i: where it lies, and its cells. -/
theorem C.get (h : d.C S w A n xs) (i : Nat) (hi : i < n) : ∃ b o cs x, A = some ⟨b, o, none⟩ ∧ xs[i]? = some x ∧ d.K S w x cs ∧ ∀ j v, cs[j]? = some v → w.cell? ⟨b, o + i * d.sz + j, none⟩ = some v := by
  obtain ⟨b, o, hA, hS, hb, hc⟩ := h.2 (by omega)
  have hx : xs[i]? = some (xs[i]'(by rw [h.1]; exact hi)) := List.getElem?_eq_getElem _
  obtain ⟨cs, hK, hcs⟩ := hc i _ hx
  exact ⟨b, o, cs, _, hA, hx, hK, hcs⟩
theorem C.addr (h : d.C S w A n xs) (hn : 0 < n) : ∃ b o, A = some ⟨b, o, none⟩ ∧ S b ∧ b < w.heap.size := by
  obtain ⟨b, o, hA, hS, hb, _⟩ := h.2 hn
  exact ⟨b, o, hA, hS, hb⟩
theorem C.take_ (h : d.C S w A n xs) (m : Nat) (hm : m ≤ n) : d.C S w A m (xs.take m) := by
  refine ⟨by rw [List.length_take, h.1]; omega, fun hn => ?_⟩
  obtain ⟨b, o, hA, hS, hb, hc⟩ := h.2 (by omega)
  refine ⟨b, o, hA, hS, hb, fun i x hx => hc i x ?_⟩
  rw [List.getElem?_take] at hx
  split at hx
  · exact hx
  · cases hx
theorem C.drop_ (h : d.C S w A n xs) (m c : Nat) (hm : m ≤ n) (hc : n ≤ c) : d.C S w (if c = m then A else A.map (·.add (m * d.sz))) (n - m) (xs.drop m) := by
  refine ⟨by rw [List.length_drop, h.1], fun hn => ?_⟩
  obtain ⟨b, o, hA, hS, hb, hcs⟩ := h.2 (by omega)
  refine ⟨b, o + m * d.sz, by rw [if_neg (by omega), hA, Option.map_some, add_plain'], hS, hb, fun i x hx => ?_⟩
  rw [List.getElem?_drop] at hx
  obtain ⟨cs, hK, hcs⟩ := hcs _ x hx
  refine ⟨cs, hK, fun j v hv => ?_⟩
  rw [show o + m * d.sz + i * d.sz + j = o + (m + i) * d.sz + j by rw [Nat.add_mul]; omega]
  exact hcs j v hv
end
/-! ### the kinds -/
def int (k : IntKind) : RK Int where
  sz := 1
  K := fun _ _ x cs => cs = [.int k x] ∧ k.min ≤ x ∧ x ≤ k.max
  len := fun h => by rw [h.1]; rfl
  one := fun h u hu => by rw [h.1] at hu; rw [List.mem_singleton.1 hu]; rfl
  move := fun _ h => h
  mono := fun _ h => h
def bool : RK Bool where
  sz := 1
  K := fun _ _ x cs => cs = [.bool x]
  len := fun h => by rw [h]; rfl
  one := fun h u hu => by rw [h] at hu; rw [List.mem_singleton.1 hu]; rfl
  move := fun _ h => h
  mono := fun _ h => h
def str : RK ByteArray where
  sz := 1
  K := fun _ _ x cs => cs = [.string x] ∧ x.size ≤ maxLen
  len := fun h => by rw [h.1]; rfl
  one := fun h u hu => by rw [h.1] at hu; rw [List.mem_singleton.1 hu]; rfl
  move := fun _ h => h
  mono := fun _ h => h
/-- An array of n bytes. -/
def hash (n : Nat) : RK (List Int) where
  sz := n
  K := fun _ _ x cs => cs = nums .u8 x ∧ x.length = n ∧ Bytes x
  len := fun h => by rw [h.1, nums_length]; exact h.2.1
  one := fun h u hu => by rw [h.1] at hu; exact nums_one _ _ u hu
  move := fun _ h => h
  mono := fun _ h => h
def slice {α : Type} (d : RK α) : RK (List α) where
  sz := 1
  K := fun S w xs cs => ∃ A n c, cs = [.slice A n c] ∧ n ≤ c ∧ c ≤ maxLen ∧ d.C S w A n xs
  len := by
    rintro S w x cs ⟨A, n, c, rfl, _⟩
    rfl
  one := by
    rintro S w x cs ⟨A, n, c, rfl, _⟩ u hu
    rw [List.mem_singleton.1 hu]
    rfl
  move := by
    rintro S w w1 x cs hm ⟨A, n, c, h1, h2, h3, h4⟩
    exact ⟨A, n, c, h1, h2, h3, C.move h4 hm⟩
  mono := by
    rintro S S' w x cs hm ⟨A, n, c, h1, h2, h3, h4⟩
    exact ⟨A, n, c, h1, h2, h3, C.mono h4 hm⟩
def pair {α β : Type} (a : RK α) (b : RK β) : RK (α × β) where
  sz := a.sz + b.sz
  K := fun S w x cs => ∃ c0 c1, cs = c0 ++ c1 ∧ a.K S w x.1 c0 ∧ b.K S w x.2 c1
  len := by
    rintro S w x cs ⟨c0, c1, rfl, h0, h1⟩
    rw [List.length_append, a.len h0, b.len h1]
  one := by
    rintro S w x cs ⟨c0, c1, rfl, h0, h1⟩ u hu
    rcases List.mem_append.1 hu with hu | hu
    · exact a.one h0 u hu
    · exact b.one h1 u hu
  move := by
    rintro S w w1 x cs hm ⟨c0, c1, rfl, h0, h1⟩
    exact ⟨c0, c1, rfl, a.move hm h0, b.move hm h1⟩
  mono := by
    rintro S S' w x cs hm ⟨c0, c1, rfl, h0, h1⟩
    exact ⟨c0, c1, rfl, a.mono hm h0, b.mono hm h1⟩
def iso {α β : Type} (d : RK α) (f : β → α) : RK β where
  sz := d.sz
  K := fun S w x cs => d.K S w (f x) cs
  len := d.len
  one := d.one
  move := d.move
  mono := d.mono
theorem C.below {α : Type} {d : RK α} {S : Nat → Prop} {w w1 : World} {A : Option Addr} {n : Nat} {xs : List α} (h : d.C S w A n xs) (hb : Below w.heap.size w w1) : d.C S w1 A n xs := h.move fun k _ hk => hb.block k hk
theorem K_below {α : Type} {d : RK α} {S : Nat → Prop} {w w1 : World} {x : α} {cs : List Value} (h : d.K S w x cs) (hb : Below w.heap.size w w1) : d.K S w1 x cs := d.move (fun k _ hk => hb.block k hk) h
/-- Rows of one-celled values read as lists of cells. -/
theorem C.rd_int {k : IntKind} {S : Nat → Prop} {w : World} {A : Option Addr} {n : Nat} {xs : List Int} (h : (int k).C S w A n xs) : Rd w A n (nums k xs) := by
  refine ⟨by rw [nums_length]; exact h.1, fun hn => ?_⟩
  obtain ⟨b, o, hA, _, _, hc⟩ := h.2 hn
  refine ⟨b, o, hA, fun j u hu => ?_⟩
  have hj : j < xs.length := by have := (List.getElem?_eq_some_iff.1 hu).1; rwa [nums_length] at this
  have hx : xs[j]? = some xs[j] := List.getElem?_eq_getElem hj
  obtain ⟨cs, hK, hcs⟩ := hc j _ hx
  rw [hK.1] at hcs
  have := hcs 0 _ rfl
  simp only [nums, List.getElem?_map, hx, Option.map_some, Option.some.injEq] at hu
  rw [← hu]
  simpa [int] using this
theorem C.range_int {k : IntKind} {S : Nat → Prop} {w : World} {A : Option Addr} {n : Nat} {xs : List Int} (h : (int k).C S w A n xs) : ∀ x ∈ xs, k.min ≤ x ∧ x ≤ k.max := by
  intro x hx
  obtain ⟨i, hi, rfl⟩ := List.mem_iff_getElem.1 hx
  obtain ⟨b, o, hA, _, _, hc⟩ := h.2 (by have := h.1; omega)
  obtain ⟨cs, hK, _⟩ := hc i _ (List.getElem?_eq_getElem hi)
  exact hK.2
theorem C.bytes {S : Nat → Prop} {w : World} {A : Option Addr} {n : Nat} {xs : List Int} (h : (int .u8).C S w A n xs) : Bytes xs := by
  intro x hx
  have := h.range_int x hx
  simpa [IntKind.min, IntKind.max, IntKind.signed, IntKind.bits] using this
theorem C.rd_str {S : Nat → Prop} {w : World} {A : Option Addr} {n : Nat} {xs : List ByteArray} (h : str.C S w A n xs) : Rd w A n (xs.map Value.string) := by
  refine ⟨by rw [List.length_map]; exact h.1, fun hn => ?_⟩
  obtain ⟨b, o, hA, _, _, hc⟩ := h.2 hn
  refine ⟨b, o, hA, fun j u hu => ?_⟩
  have hj : j < xs.length := by have := (List.getElem?_eq_some_iff.1 hu).1; rwa [List.length_map] at this
  have hx : xs[j]? = some xs[j] := List.getElem?_eq_getElem hj
  obtain ⟨cs, hK, hcs⟩ := hc j _ hx
  rw [hK.1] at hcs
  have := hcs 0 _ rfl
  simp only [List.getElem?_map, hx, Option.map_some, Option.some.injEq] at hu
  rw [← hu]
  simpa [str] using this
theorem C.all_str {S : Nat → Prop} {w : World} {A : Option Addr} {n : Nat} {xs : List ByteArray} (h : str.C S w A n xs) : ∀ x ∈ xs, x.size ≤ maxLen := by
  intro x hx
  obtain ⟨i, hi, rfl⟩ := List.mem_iff_getElem.1 hx
  obtain ⟨b, o, hA, _, _, hc⟩ := h.2 (by have := h.1; omega)
  obtain ⟨cs, hK, _⟩ := hc i _ (List.getElem?_eq_getElem hi)
  exact hK.2
end RK

/-! ### what came in is of a kind -/
section
variable {P : Program}
/-- Data of type t that can be read is of kind d. -/
def Came (P : Program) {α : Type} (t : TypeId) (d : RK α) : Prop := P.cellsOf t = d.sz ∧ 0 < d.sz ∧
  ∀ {H : Type} {enc : TypeId × Value → H} {W : World} {sp : Nat → Bool} {held : Bool} {fuel : Nat} {cs : List Value} {x : DataW H × List MemPlace}, DataW.trod enc P W 0 sp held fuel t cs = some x → ∃ a, d.K (· < W.heap.size) W a cs
theorem came_int {t : TypeId} {k : IntKind} (ht : P.underlying t = some (.int k)) (hc : P.cellsOf t = 1) : Came P t (RK.int k) := by
  refine ⟨hc, Nat.one_pos, fun h => ?_⟩
  obtain ⟨n, rfl, _, hw⟩ := DataW.trod_int ht h
  simp only [Lit.wf, Bool.and_eq_true, decide_eq_true_eq] at hw
  exact ⟨n, rfl, hw⟩
theorem came_bool {t : TypeId} (ht : P.underlying t = some .bool) (hc : P.cellsOf t = 1) : Came P t RK.bool := by
  refine ⟨hc, Nat.one_pos, fun h => ?_⟩
  obtain ⟨n, rfl, _⟩ := DataW.trod_bool ht h
  exact ⟨n, rfl⟩
theorem came_str {t : TypeId} (ht : P.underlying t = some .string) (hc : P.cellsOf t = 1) : Came P t RK.str := by
  refine ⟨hc, Nat.one_pos, fun h => ?_⟩
  obtain ⟨n, rfl, _, hs⟩ := DataW.trod_string ht h
  exact ⟨n, rfl, hs⟩
theorem list_of {α : Type} (n : Nat) {p : Nat → α → Prop} (h : ∀ i, i < n → ∃ a, p i a) : ∃ xs : List α, xs.length = n ∧ ∀ i x, xs[i]? = some x → p i x := by
  induction n with
  | zero => exact ⟨[], rfl, fun i x hx => by simp at hx⟩
  | succ n ih =>
    obtain ⟨xs, hl, hx⟩ := ih (fun i hi => h i (by omega))
    obtain ⟨a, ha⟩ := h n (by omega)
    refine ⟨xs ++ [a], by simp [hl], fun i x hi => ?_⟩
    rcases Nat.lt_or_ge i n with hlt | hge
    · rw [List.getElem?_append_left (by omega)] at hi
      exact hx i x hi
    · have hin : i < n + 1 := by have := (List.getElem?_eq_some_iff.1 hi).1; simp [hl] at this; omega
      obtain rfl : i = n := by omega
      rw [List.getElem?_append_right (by omega), hl] at hi
      simp at hi
      exact hi ▸ ha
theorem came_slice {α : Type} {t e : TypeId} {d : RK α} (ht : P.underlying t = some (.slice e)) (hc : P.cellsOf t = 1) (hd : Came P e d) : Came P t (RK.slice d) := by
  refine ⟨hc, Nat.one_pos, fun {H enc W sp held fuel cs x} h => ?_⟩
  obtain ⟨hde, hpos, hd⟩ := hd
  rcases DataW.trod_slice ht h with ⟨rfl, _⟩ | ⟨a, len, cap, elems, rest, n, _, rfl, _, _, hl, hm, hlen, hel, _, _⟩
  · exact ⟨[], none, 0, 0, rfl, Nat.le_refl _, Nat.zero_le _, RK.C.nil _ _ _ _⟩
  · have key : ∀ i, i < len → ∃ z : α × List Value, d.K (· < W.heap.size) W z.1 z.2 ∧ W.cells? 0 (a.add (i * d.sz)) d.sz = some z.2 := by
      intro i hi
      have h1 := hel i hi
      rw [List.getElem?_eq_getElem (by omega)] at h1
      obtain ⟨cs, h2, h3⟩ := Option.bind_eq_some_iff.1 h1
      obtain ⟨z, hz⟩ := hd h3
      exact ⟨(z, cs), hz, by rw [← hde]; exact h2⟩
    obtain ⟨zs, hzl, hz⟩ := list_of len key
    refine ⟨zs.map (·.1), some a, len, cap, rfl, hl, hm, by rw [List.length_map]; exact hzl, fun hn => ?_⟩
    have cell0 : ∀ i z, zs[i]? = some z → ∀ j v, z.2[j]? = some v → W.cell? ((a.add (i * d.sz)).add j) = some v := by
      intro i z hi j v hv
      obtain ⟨_, h1, h2⟩ := World.cells?_some (hz i z hi).2
      have hj : j < d.sz := by have := (List.getElem?_eq_some_iff.1 hv).1; omega
      rw [h2 j hj]
      exact hv
    have h0 : zs[0]? = some (zs[0]'(by omega)) := List.getElem?_eq_getElem (by omega)
    have hz0 := d.len (hz 0 _ h0).1
    have hv0 : (zs[0]'(by omega)).2[0]? = some ((zs[0]'(by omega)).2[0]'(by omega)) := List.getElem?_eq_getElem (by omega)
    have hc0 := cell0 0 _ h0 0 _ hv0
    obtain ⟨b, o, sp'⟩ := a
    have hsp : sp' = none := by
      rw [Nat.zero_mul] at hc0
      simp only [Addr.add] at hc0
      cases sp' with
      | none => rfl
      | some q => simp [World.cell?] at hc0; split at hc0 <;> simp at hc0
    subst hsp
    refine ⟨b, o, rfl, ?_, ?_, fun i x hx => ?_⟩
    · have := World.block_lt_of_cell? W _ hc0
      rwa [block_of_add, block_of_add] at this
    · have := World.block_lt_of_cell? W _ hc0
      rwa [block_of_add, block_of_add] at this
    · rw [List.getElem?_map] at hx
      obtain ⟨z, hz1, rfl⟩ := Option.map_eq_some_iff.1 hx
      refine ⟨z.2, (hz i z hz1).1, fun j v hv => ?_⟩
      have := cell0 i z hz1 j v hv
      rwa [add_plain', add_plain'] at this
/-- The fields fs from offset o on are of kind d. -/
def CameF (P : Program) {α : Type} (fs : List Field) (o : Nat) (d : RK α) : Prop := 0 < d.sz ∧
  ∀ {H : Type} {enc : TypeId × Value → H} {W : World} {sp : Nat → Bool} {held : Bool} {n : Nat} {cs : List Value}, cs.length = o + d.sz →
    (∀ f ∈ fs, ∃ x, DataW.trod enc P W 0 sp held n f.type ((cs.drop f.offset).take (P.cellsOf f.type)) = some x) → ∃ a, d.K (· < W.heap.size) W a (cs.drop o)
theorem cameF_one {α : Type} {f : Field} {o : Nat} {d : RK α} (ho : f.offset = o) (hd : Came P f.type d) : CameF P [f] o d := by
  refine ⟨hd.2.1, fun {H enc W sp held n cs} hl h => ?_⟩
  obtain ⟨x, hx⟩ := h f (by simp)
  rw [ho, hd.1, List.take_of_length_le (by rw [List.length_drop]; omega)] at hx
  exact hd.2.2 hx
theorem cameF_cons {α β : Type} {f : Field} {fs : List Field} {o : Nat} {a : RK α} {b : RK β} (ho : f.offset = o) (ha : Came P f.type a) (hb : CameF P fs (o + a.sz) b) : CameF P (f :: fs) o (RK.pair a b) := by
  have hs : (RK.pair a b).sz = a.sz + b.sz := rfl
  refine ⟨by rw [hs]; have := ha.2.1; omega, fun {H enc W sp held n cs} hl h => ?_⟩
  obtain ⟨x, hx⟩ := h f (by simp)
  rw [ho, ha.1] at hx
  obtain ⟨u, hu⟩ := ha.2.2 hx
  obtain ⟨v, hv⟩ := hb.2 (by rw [hl, hs]; omega) (fun g hg => h g (List.mem_cons_of_mem _ hg))
  exact ⟨(u, v), (cs.drop o).take a.sz, cs.drop (o + a.sz), by rw [← List.drop_drop, List.take_append_drop], hu, hv⟩
theorem came_struct {α : Type} {t : TypeId} {fs : Array Field} {d : RK α} (ht : P.underlying t = some (.struct fs)) (hc : P.cellsOf t = d.sz) (hf : CameF P fs.toList 0 d) : Came P t d := by
  refine ⟨hc, hf.1, fun {H enc W sp held fuel cs x} h => ?_⟩
  obtain ⟨xs, n, _, _, hl, hxl, hx⟩ := DataW.trod_struct ht h
  have := hf.2 (enc := enc) (W := W) (sp := sp) (held := held) (n := n) (cs := cs) (by rw [hl, hc, Nat.zero_add]) (fun f hfm => by
    obtain ⟨i, hi, rfl⟩ := List.mem_iff_getElem.1 hfm
    have h1 := hx i fs.toList[i] (by simp at hi ⊢)
    rw [h1]
    exact ⟨xs[i]'(by simp at hi; omega), List.getElem?_eq_getElem _⟩)
  rwa [List.drop_zero] at this
theorem came_iso {α β : Type} {t : TypeId} {d : RK α} (f : β → α) (g : α → β) (hg : ∀ a, f (g a) = a) (hd : Came P t d) : Came P t (RK.iso d f) :=
  ⟨hd.1, hd.2.1, fun h => by obtain ⟨a, ha⟩ := hd.2.2 h; exact ⟨g a, by show d.K _ _ (f (g a)) _; rw [hg]; exact ha⟩⟩
section
variable {H : Type} {enc : TypeId × Value → H} {W : World}
/-- An argument of one cell. -/
theorem open_one {α : Type} {t : TypeId} {d : RK α} {v : Value} {x : DataW H} {ps : List MemPlace} (hd : Came P t d) (hv : v.cells = #[v]) (h : DataW.Trod enc P W 0 (fun _ => true) true t v x ps) : ∃ a, d.K (· < W.heap.size) W a [v] := by
  obtain ⟨fuel, hf⟩ := h
  rw [hv] at hf
  exact hd.2.2 hf
theorem open_slice {α : Type} {base : Nat} {t e : TypeId} {d : RK α} {v : Value} {x : DataW H} {ps : List MemPlace} (ht : P.underlying t = some (.slice e)) (hc : P.cellsOf t = 1) (hd : Came P e d) (hv : Value.okWide P W .any base t v) (h : DataW.Trod enc P W 0 (fun _ => true) true t v x ps) :
    ∃ A n c xs, v = .slice A n c ∧ n ≤ c ∧ c ≤ maxLen ∧ d.C (· < W.heap.size) W A n xs := by
  obtain ⟨a, len, cap, rfl⟩ := okWide_slice ht hv
  obtain ⟨xs, A, n, c, hcs, h1, h2, h3⟩ := open_one (came_slice ht hc hd) rfl h
  obtain ⟨rfl, rfl, rfl⟩ : a = A ∧ len = n ∧ cap = c := by simpa using hcs
  exact ⟨a, len, cap, xs, rfl, h1, h2, h3⟩
theorem open_struct {α : Type} {base : Nat} {t : TypeId} {fs : Array Field} {d : RK α} {v : Value} {x : DataW H} {ps : List MemPlace} (ht : P.underlying t = some (.struct fs)) (hd : Came P t d) (hv : Value.okWide P W .any base t v) (h : DataW.Trod enc P W 0 (fun _ => true) true t v x ps) :
    ∃ a cs, v = .agg cs.toArray ∧ d.K (· < W.heap.size) W a cs := by
  obtain ⟨cs, rfl, _⟩ := okWide_struct ht hv
  obtain ⟨fuel, hf⟩ := h
  obtain ⟨a, ha⟩ := hd.2.2 hf
  exact ⟨a, cs.toList, by simp, ha⟩
end
end
end Go.Proofs.Ytjlkakggmfmfiaa
