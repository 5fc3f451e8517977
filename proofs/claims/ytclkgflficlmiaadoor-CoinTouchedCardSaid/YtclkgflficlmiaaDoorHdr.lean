/- A block's header: what its cells say, and its bytes, in plain terms. -/
import Derived.Test.YtclkgflficlmiaaDoorBase
import Derived.Test.YtclkgflficlmiaaDoorBlkPure
set_option maxRecDepth 100000
set_option linter.unusedVariables false
namespace Go.Proofs.YtclkgflficlmiaaDoor
open Go Go.RowKit
structure Hd where
  ver : Int
  prev : List Int
  root : List Int
  time : Int
  bits : Int
  nonce : Int
def Hd.cells (h : Hd) : List Value := .int .i32 h.ver :: (nums .u8 h.prev ++ (nums .u8 h.root ++ [.int .u32 h.time, .int .u32 h.bits, .int .u32 h.nonce]))
structure Hd.Ok (h : Hd) : Prop where
  v0 : -2147483648 ≤ h.ver
  v1 : h.ver ≤ 2147483647
  prev : Dig h.prev
  root : Dig h.root
  t0 : 0 ≤ h.time
  t1 : h.time ≤ 4294967295
  b0 : 0 ≤ h.bits
  b1 : h.bits ≤ 4294967295
  n0 : 0 ≤ h.nonce
  n1 : h.nonce ≤ 4294967295
theorem Hd.length {h : Hd} (k : h.Ok) : h.cells.length = 68 := by
  simp only [Hd.cells, List.length_cons, List.length_append, nums_length, k.prev.1, k.root.1, List.length_nil]
theorem Hd.one (h : Hd) : ∀ u ∈ h.cells, u.oneCell' = true := by
  intro u hu
  simp only [Hd.cells, List.mem_cons, List.mem_append, List.not_mem_nil, or_false] at hu
  rcases hu with rfl | hu | hu | rfl | rfl | rfl
  · rfl
  · exact nums_one _ _ u hu
  · exact nums_one _ _ u hu
  · rfl
  · rfl
  · rfl
theorem Hd.allOne (h : Hd) : h.cells.toArray.all (·.oneCell') = true := by rw [Array.all_eq_true']; intro u hu; exact h.one u (by simpa using hu)
theorem Hd.at0 (h : Hd) : h.cells[0]? = some (.int .i32 h.ver) := rfl
section
variable {h : Hd} (k : h.Ok)
include k
theorem Hd.drop1 : (h.cells.drop 1).take 32 = nums .u8 h.prev := by
  simp only [Hd.cells, List.drop_succ_cons, List.drop_zero]
  rw [List.take_append_of_le_length (by rw [nums_length, k.prev.1]; exact Nat.le_refl _), List.take_of_length_le (by rw [nums_length, k.prev.1]; exact Nat.le_refl _)]
theorem Hd.tail33 : h.cells.drop 33 = nums .u8 h.root ++ [.int .u32 h.time, .int .u32 h.bits, .int .u32 h.nonce] := by
  simp only [Hd.cells, List.drop_succ_cons]
  rw [List.drop_append_of_le_length (by rw [nums_length, k.prev.1]; exact Nat.le_refl _), List.drop_of_length_le (by rw [nums_length, k.prev.1]; exact Nat.le_refl _), List.nil_append]
theorem Hd.drop33 : (h.cells.drop 33).take 32 = nums .u8 h.root := by
  rw [Hd.tail33 k, List.take_append_of_le_length (by rw [nums_length, k.root.1]; exact Nat.le_refl _), List.take_of_length_le (by rw [nums_length, k.root.1]; exact Nat.le_refl _)]
theorem Hd.tail65 : h.cells.drop 65 = [.int .u32 h.time, .int .u32 h.bits, .int .u32 h.nonce] := by
  rw [show (65 : Nat) = 33 + 32 from rfl, ← List.drop_drop, Hd.tail33 k, List.drop_append_of_le_length (by rw [nums_length, k.root.1]; exact Nat.le_refl _), List.drop_of_length_le (by rw [nums_length, k.root.1]; exact Nat.le_refl _), List.nil_append]
theorem Hd.at65 : h.cells[65]? = some (.int .u32 h.time) := by
  have := congrArg (fun l => l[0]?) (Hd.tail65 k)
  simpa [List.getElem?_drop] using this
theorem Hd.at66 : h.cells[66]? = some (.int .u32 h.bits) := by
  have := congrArg (fun l => l[1]?) (Hd.tail65 k)
  simpa [List.getElem?_drop] using this
theorem Hd.at67 : h.cells[67]? = some (.int .u32 h.nonce) := by
  have := congrArg (fun l => l[2]?) (Hd.tail65 k)
  simpa [List.getElem?_drop] using this
end
/-- A header's bytes. -/
def hbF (h : Hd) : List Int := leF 4 (h.ver % 4294967296).toNat ++ h.prev ++ h.root ++ leF 4 h.time.toNat ++ leF 4 h.bits.toNat ++ leF 4 h.nonce.toNat
theorem hbF_length {h : Hd} (k : h.Ok) : (hbF h).length = 80 := by simp [hbF, leF_length, k.prev.1, k.root.1]
theorem hbF_bytes {h : Hd} (k : h.Ok) : Bytes (hbF h) := by
  unfold hbF
  exact (((((leF_bytes _ _).append k.prev.2).append k.root.2).append (leF_bytes _ _)).append (leF_bytes _ _)).append (leF_bytes _ _)
def hd0 : Hd := ⟨0, zeros32, zeros32, 0, 0, 0⟩
theorem hd0_ok : hd0.Ok := ⟨by decide, by decide, zeros32_dig, zeros32_dig, by decide, by decide, by decide, by decide, by decide, by decide⟩
/-- What came in as a header. -/
abbrev hdP : RK (Int × (List Int × (List Int × (Int × (Int × Int))))) := RK.pair (RK.int .i32) (RK.pair (RK.hash 32) (RK.pair (RK.hash 32) (RK.pair (RK.int .u32) (RK.pair (RK.int .u32) (RK.int .u32)))))
theorem hdP_cells {S : Nat → Prop} {w : World} {x : Int × (List Int × (List Int × (Int × (Int × Int))))} {cs : List Value} (h : hdP.K S w x cs) : ∃ d : Hd, cs = d.cells ∧ d.Ok := by
  obtain ⟨v, p, r, t, b, n⟩ := x
  obtain ⟨c0, c1, rfl, ⟨rfl, hv⟩, c2, c3, rfl, ⟨rfl, hp⟩, c4, c5, rfl, ⟨rfl, hr⟩, c6, c7, rfl, ⟨rfl, ht⟩, c8, c9, rfl, ⟨rfl, hb⟩, ⟨rfl, hn⟩⟩ := h
  refine ⟨⟨v, p, r, t, b, n⟩, rfl, ⟨?_, ?_, hp, hr, ?_, ?_, ?_, ?_, ?_, ?_⟩⟩
  all_goals
    simp only [IntKind.min, IntKind.max, IntKind.signed, IntKind.bits] at hv ht hb hn
    first | exact hv.1 | exact hv.2 | exact ht.1 | exact ht.2 | exact hb.1 | exact hb.2 | exact hn.1 | exact hn.2
end Go.Proofs.YtclkgflficlmiaaDoor
