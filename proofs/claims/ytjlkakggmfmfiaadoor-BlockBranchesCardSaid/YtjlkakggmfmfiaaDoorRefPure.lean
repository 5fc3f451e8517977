/- Plain facts on which the reference's digest leans: ranges, the schedule's next number, the digest's bytes in fours. -/
import Derived.Test.YtjlkakggmfmfiaaDoorSumPure
import Derived.Test.YtjlkakggmfmfiaaDoorWords
set_option maxRecDepth 100000
namespace Go.Proofs.YtjlkakggmfmfiaaDoor
open Go Go.RowKit
def tabs72 : List Int := first8.list ++ adds
def S8.Ok (s : S8) : Prop := ∀ x ∈ s.list, 0 ≤ x ∧ x < 4294967296
theorem M32_range (x : Int) : 0 ≤ M32 x ∧ M32 x < 4294967296 := by unfold M32; omega
theorem S8.ok_of {a b c d e f g h : Int} (ha : 0 ≤ a ∧ a < 4294967296) (hb : 0 ≤ b ∧ b < 4294967296) (hc : 0 ≤ c ∧ c < 4294967296) (hd : 0 ≤ d ∧ d < 4294967296) (he : 0 ≤ e ∧ e < 4294967296) (hf : 0 ≤ f ∧ f < 4294967296) (hg : 0 ≤ g ∧ g < 4294967296) (hh : 0 ≤ h ∧ h < 4294967296) :
    S8.Ok ⟨a, b, c, d, e, f, g, h⟩ := by
  intro x hx
  simp only [S8.list, List.mem_cons, List.not_mem_nil, or_false] at hx
  rcases hx with rfl | rfl | rfl | rfl | rfl | rfl | rfl | rfl <;> assumption
theorem S8.Ok.get {s : S8} (h : s.Ok) : (0 ≤ s.a ∧ s.a < 4294967296) ∧ (0 ≤ s.b ∧ s.b < 4294967296) ∧ (0 ≤ s.c ∧ s.c < 4294967296) ∧ (0 ≤ s.d ∧ s.d < 4294967296) ∧ (0 ≤ s.e ∧ s.e < 4294967296) ∧ (0 ≤ s.f ∧ s.f < 4294967296) ∧ (0 ≤ s.g ∧ s.g < 4294967296) ∧ (0 ≤ s.h ∧ s.h < 4294967296) := by
  refine ⟨h _ ?_, h _ ?_, h _ ?_, h _ ?_, h _ ?_, h _ ?_, h _ ?_, h _ ?_⟩ <;> simp [S8.list]
theorem first8_ok : first8.Ok := S8.ok_of (by decide) (by decide) (by decide) (by decide) (by decide) (by decide) (by decide) (by decide)
theorem add8_ok (s r : S8) : (add8 s r).Ok := S8.ok_of (M32_range _) (M32_range _) (M32_range _) (M32_range _) (M32_range _) (M32_range _) (M32_range _) (M32_range _)
theorem rnd_ok {s : S8} (h : s.Ok) (k x : Int) : (rnd s k x).Ok := by
  obtain ⟨ha, hb, hc, hd, he, hf, hg, hh⟩ := h.get
  exact S8.ok_of (M32_range _) ha hb hc (M32_range _) he hf hg
theorem stN_ok {s : S8} (h : s.Ok) (bs : List Int) (n : Nat) : (stN s bs n).Ok := by
  induction n with
  | zero => exact h
  | succ n ih => exact rnd_ok ih _ _
theorem runN_ok (bs : List Int) (k : Nat) : (runN first8 bs k).Ok := by
  cases k with
  | zero => exact first8_ok
  | succ k => exact add8_ok _ _
/-- The other bits of a number of 32. -/
theorem notF_eq (e : Int) (h0 : 0 ≤ e) (h1 : e < 4294967296) : notF e = 4294967295 - e := by
  obtain ⟨e, rfl⟩ := Int.eq_ofNat_of_zero_le h0
  have he : e < 2 ^ 32 := by omega
  have hm : (if IntKind.u32.signed = true then -1 else IntKind.u32.max) = ((4294967295 : Nat) : Int) := by decide
  unfold notF
  rw [hm]
  have h2 : (BitVec.ofInt 32 ((4294967295 : Nat) : Int)) = BitVec.allOnes 32 := by decide
  have h3 : (BitVec.ofInt 32 ((e : Nat) : Int)).toNat = e := by rw [BitVec.ofInt_natCast, BitVec.toNat_ofNat]; exact Nat.mod_eq_of_lt he
  show IntKind.u32.wrap ((BitVec.ofInt 32 ((4294967295 : Nat) : Int) ^^^ BitVec.ofInt 32 ((e : Nat) : Int)).toNat : Int) = _
  rw [h2, BitVec.allOnes_xor, BitVec.toNat_not, h3]
  rw [show (2 ^ 32 - 1 - e : Nat) = 4294967295 - e from rfl]
  have hw : ∀ x : Int, IntKind.u32.wrap x = x % 4294967296 := fun x => by simp [IntKind.wrap, IntKind.bits, IntKind.signed]
  rw [hw]
  have h5 : ((4294967295 - e : Nat) : Int) = 4294967295 - (e : Int) := by omega
  rw [h5]
  exact Int.emod_eq_of_lt (by omega) (by omega)
theorem u32_wrap (x : Int) : IntKind.u32.wrap x = x % 4294967296 := by simp [IntKind.wrap, IntKind.bits, IntKind.signed]
theorem nextW_eq (bs l : List Int) (i : Nat) (h : 16 ≤ i) : nextW bs l i = M32 (rd l (i - 16) + (sig0 (rd l (i - 15)) + rd l (i - 7) + sig1 (rd l (i - 2)))) := by
  unfold nextW; rw [if_neg (by omega)]
theorem schL_succ (bs : List Int) (i : Nat) : schL bs (i + 1) = schL bs i ++ [nextW bs (schL bs i) i] := rfl
/-- The digest's bytes, four by four, each four from the last. -/
def OutQ (s : S8) (i t : Nat) (L : List Int) : Prop := L.length = 32 ∧ (∀ j, j < 4 * i → rd L j = outB s j) ∧ ∀ u, u < t → rd L (4 * i + 3 - u) = outB s (4 * i + 3 - u)
theorem OutQ.zero (s : S8) : OutQ s 0 0 (List.replicate 32 0) := ⟨by simp, fun j hj => by omega, fun u hu => by omega⟩
theorem OutQ.next {s : S8} {i : Nat} {L : List Int} (h : OutQ s i 4 L) : OutQ s (i + 1) 0 L :=
  ⟨h.1, fun j hj => by
    rcases Nat.lt_or_ge j (4 * i) with hl | hl
    · exact h.2.1 j hl
    · have := h.2.2 (4 * i + 3 - j) (by omega)
      rwa [show 4 * i + 3 - (4 * i + 3 - j) = j by omega] at this, fun u hu => by omega⟩
theorem OutQ.step {s : S8} {i t : Nat} {L : List Int} (h : OutQ s i t L) (hi : i < 8) (ht : t < 4) : OutQ s i (t + 1) (L.set (4 * i + 3 - t) (outB s (4 * i + 3 - t))) := by
  refine ⟨by rw [List.length_set]; exact h.1, fun j hj => ?_, fun u hu => ?_⟩
  · rw [rd_set_ne _ _ _ _ (by omega)]; exact h.2.1 j hj
  · rcases Nat.lt_or_ge u t with hl | hl
    · rw [rd_set_ne _ _ _ _ (by omega)]; exact h.2.2 u hl
    · obtain rfl : u = t := by omega
      exact rd_set_same _ _ _ (by rw [h.1]; omega)
theorem OutQ.done {s : S8} {L : List Int} (h : OutQ s 8 0 L) : L = outF s := by
  refine rd_ext _ _ (by rw [h.1, outF_length]) fun i hi => ?_
  rw [h.1] at hi
  rw [h.2.1 i (by omega), rd_outF s i hi]
theorem outB_at (s : S8) (i t : Nat) (ht : t < 4) : outB s (4 * i + 3 - t) = rd s.list i / 2 ^ (8 * t) % 256 := by
  unfold outB
  rw [show (4 * i + 3 - t) / 4 = i by omega, show 24 - 8 * ((4 * i + 3 - t) % 4) = 8 * t by omega]
theorem div_next (x : Int) (t : Nat) : x / 2 ^ (8 * t) / 256 = x / 2 ^ (8 * (t + 1)) := by
  have hp : (0 : Int) < 2 ^ (8 * t) := Int.pow_pos (by decide)
  rw [Int.ediv_ediv, if_neg (fun h => by omega), Int.sub_zero, show 8 * (t + 1) = 8 * t + 8 by omega, Int.pow_add]
  rfl
theorem div_range (x : Int) (t : Nat) (h0 : 0 ≤ x) (h1 : x < 4294967296) : 0 ≤ x / 2 ^ (8 * t) ∧ x / 2 ^ (8 * t) < 4294967296 := by
  have hp : (0 : Int) < 2 ^ (8 * t) := Int.pow_pos (by decide)
  exact ⟨Int.ediv_nonneg h0 (Int.le_of_lt hp), Int.lt_of_le_of_lt (Int.ediv_le_self _ h0) h1⟩
theorem list_range {s : S8} (h : s.Ok) (i : Nat) (hi : i < 8) : 0 ≤ rd s.list i ∧ rd s.list i < 4294967296 := h _ (rd_mem _ _ hi)
theorem own_cast {w : World} {base n : Nat} {e : TypeId} {v : Value} {xs ys : List Value} (h : w.ownsRow base e 1 v n xs) (hx : xs = ys) : w.ownsRow base e 1 v n ys := hx ▸ h
theorem Turned.trans {w w1 w2 : World} {g : Nat} (h : Turned w g w1) (k : Turned w1 g w2) : Turned w g w2 :=
  ⟨k.os.trans h.os, k.tape.trans h.tape, k.output.trans h.output, k.size.trans h.size, fun j hj => (k.block j hj).trans (h.block j hj)⟩
theorem cells8 {w : World} {g : Nat} {t : TypeId} {s : S8} (h : w.heap[g]? = some (.cells s.cells t (0, 0))) (x0 x1 x2 x3 x4 x5 x6 x7 : Value) :
    ((((((((w.setCell ⟨g, 0, none⟩ x0).setCell ⟨g, 1, none⟩ x1).setCell ⟨g, 2, none⟩ x2).setCell ⟨g, 3, none⟩ x3).setCell ⟨g, 4, none⟩ x4).setCell ⟨g, 5, none⟩ x5).setCell ⟨g, 6, none⟩ x6).setCell ⟨g, 7, none⟩ x7).heap[g]? = some (.cells #[x0, x1, x2, x3, x4, x5, x6, x7] t (0, 0)) := by
  have := blk_set (blk_set (blk_set (blk_set (blk_set (blk_set (blk_set (blk_set h 0 x0) 1 x1) 2 x2) 3 x3) 4 x4) 5 x5) 6 x6) 7 x7
  rw [this]
  have key : ((((((((s.cells.setIfInBounds 0 x0).setIfInBounds 1 x1).setIfInBounds 2 x2).setIfInBounds 3 x3).setIfInBounds 4 x4).setIfInBounds 5 x5).setIfInBounds 6 x6).setIfInBounds 7 x7) = #[x0, x1, x2, x3, x4, x5, x6, x7] := by
    apply Array.ext'
    simp [S8.cells]
  rw [key]
theorem turned8 (w : World) (g : Nat) (x0 x1 x2 x3 x4 x5 x6 x7 : Value) :
    Turned w g ((((((((w.setCell ⟨g, 0, none⟩ x0).setCell ⟨g, 1, none⟩ x1).setCell ⟨g, 2, none⟩ x2).setCell ⟨g, 3, none⟩ x3).setCell ⟨g, 4, none⟩ x4).setCell ⟨g, 5, none⟩ x5).setCell ⟨g, 6, none⟩ x6).setCell ⟨g, 7, none⟩ x7) :=
  ((((((((turned_setCell _ _ _ _).trans (turned_setCell _ _ _ _)).trans (turned_setCell _ _ _ _)).trans (turned_setCell _ _ _ _)).trans (turned_setCell _ _ _ _)).trans (turned_setCell _ _ _ _)).trans (turned_setCell _ _ _ _)).trans (turned_setCell _ _ _ _))
end Go.Proofs.YtjlkakggmfmfiaaDoor
