/- A slice of zeros of any kind that is made. -/
import Derived.Test.YtjlkakggmfmfiaaHead07
import Derived.Laws.MakeOwn
set_option maxRecDepth 100000
set_option linter.unusedVariables false
namespace Go.Proofs.Ytjlkakggmfmfiaa
open Go Go.RowKit
theorem made_get (z : Array Value) (s n : Nat) (hs : z.size = s) (i j : Nat) (hi : i < n) (hj : j < s) : (madeCells z (n * s))[i * s + j]? = z[j]? := by
  have h1 : i * s + j < n * s := by
    have : (i + 1) * s ≤ n * s := Nat.mul_le_mul_right _ hi
    rw [Nat.add_mul] at this
    omega
  have h2 : (i * s + j) % z.size = j := by rw [hs, Nat.add_comm, Nat.add_mul_mod_self_right, Nat.mod_eq_of_lt hj]
  have h3 : j < z.size := by omega
  simp only [madeCells, Array.getElem?_map]
  rw [Array.getElem?_eq_getElem (by rw [Array.size_range]; exact h1)]
  simp only [Array.getElem_range, Option.map_some, h2]
  rw [Array.getElem?_eq_getElem h3, getElem!_pos z j h3]
theorem C_made {α : Type} {d : RK α} {S : Nat → Prop} {w : World} {b n : Nat} {t : TypeId} {fz : Nat × Nat} {x0 : α} {z : Array Value} (hz : z.size = d.sz) (hK : d.K S w x0 z.toList) (hg : w.heap[b]? = some (.cells (madeCells z (n * d.sz)) t fz)) (hS : S b) : d.C S w (some ⟨b, 0, none⟩) n (List.replicate n x0) := by
  refine ⟨List.length_replicate, fun hn => ⟨b, 0, rfl, hS, heap_lt hg, fun i x hx => ?_⟩⟩
  rw [List.getElem?_replicate] at hx
  split at hx
  · rename_i hi
    obtain rfl := Option.some.inj hx
    refine ⟨z.toList, hK, fun j v hv => ?_⟩
    have hj : j < d.sz := by rw [← hz, ← Array.length_toList]; exact (List.getElem?_eq_some_iff.1 hv).1
    refine blk_cell hg ?_
    rw [Nat.zero_add, made_get z d.sz n hz i j hi hj, ← Array.getElem?_toList]
    exact hv
  · cases hx
theorem run_makeZ {P : Program} (t e : TypeId) (z : Value) (sz bytes : Nat) (ht : P.underlying t = some (.slice e)) (hinfo : (P.info? e).map (fun i => (i.zero, i.size, i.bytes)) = some (some z, sz, bytes)) (n : Nat) (hn : bytes * n ≤ 281474976710656) (hn2 : n ≤ 9223372036854775807) (nz : Int) (hz : nz = (n : Int)) (W : World) :
    (Instr.makeSlice t (.int .i64 nz) (.int .i64 nz)).run P W = .ok (.slice (some ⟨W.heap.size, 0, none⟩) n n) (W.alloc (.cells (madeCells z.cells (n * sz)) e)) := by
  subst hz
  obtain ⟨i, hi, hzz, hsize, hby⟩ : ∃ i, P.info? e = some i ∧ i.zero = some z ∧ i.size = sz ∧ i.bytes = bytes := by
    cases h : P.info? e with
    | none => rw [h] at hinfo; cases hinfo
    | some i => rw [h] at hinfo; simp only [Option.map_some, Option.some.injEq, Prod.mk.injEq] at hinfo; exact ⟨i, rfl, hinfo.1, hinfo.2.1, hinfo.2.2⟩
  have hb' : (i.bytes : Int) * (n : Int) ≤ 281474976710656 := by
    have h : ((i.bytes * n : Nat) : Int) ≤ 281474976710656 := by rw [hby]; omega
    rwa [Int.natCast_mul] at h
  have hr := run_make (P := P) W t e i z ht hi hzz .i64 .i64 n n (by omega) (Int.le_refl _) hb' (by omega)
  simp only [Int.toNat_natCast, hsize] at hr
  exact hr
/-- A transaction of the law on bounds. -/
def tE : Nat → Nat → TTx
  | 0, m => ⟨0, List.replicate (1024 + m) in0, [⟨0, ⟨#[]⟩⟩], 0⟩
  | 1, m => ⟨0, [in0], List.replicate (1024 + m) ⟨0, ⟨#[]⟩⟩, 0⟩
  | 2, m => ⟨0, [{ in0 with wit := List.replicate (100 + m) ⟨#[]⟩ }], [⟨0, ⟨#[]⟩⟩], 0⟩
  | _, m => ⟨0, [in0], [⟨0, strOfNums (List.replicate (10000 + m) 0)⟩], 0⟩
def wantE : Nat → Nat → Int
  | _, 0 => 0
  | 3, _ => 6
  | _, _ => 3
theorem tE_err : ∀ k, k < 4 → ∀ m, m < 2 → encErr (tE k m) = wantE k m ∧ checkF (tE k m) = wantE k m := by decide +kernel
end Go.Proofs.Ytjlkakggmfmfiaa
