/- Digests as a map's keys. -/
import Derived.Test.YtclkgflficlmiaaDoorMapV
import Derived.Test.YtclkgflficlmiaaDoorBlkPure
import Derived.DeepKeys4
set_option maxRecDepth 100000
set_option linter.unusedVariables false
namespace Go.Proofs.YtclkgflficlmiaaDoor
open Go Go.RowKit
theorem mapM_all {α β : Type} {f : α → Option β} : ∀ (l : List α), (∀ x ∈ l, ∃ y, f x = some y) → ∃ ys, l.mapM f = some ys
  | [], _ => ⟨[], by simp⟩
  | x :: l, h => by
    obtain ⟨y, hy⟩ := h x (by simp)
    obtain ⟨ys, hys⟩ := mapM_all l (fun z hz => h z (by simp [hz]))
    exact ⟨y :: ys, by simp [hy, hys]⟩
def hkv (xs : List Int) : Value := .agg (nums .u8 xs).toArray
theorem typesN : ∃ m, Tryd.prog.types.size = m + 1 := ⟨Tryd.prog.types.size - 1, by
  have : 0 < Tryd.prog.types.size := of_decide_eq_true (by kernel_rfl)
  omega⟩
theorem byteLit {x : Int} (h : 0 ≤ x ∧ x ≤ 255) : (Lit.int .u8 x).wf = true := by
  simp [Lit.wf, IntKind.min, IntKind.max, IntKind.signed, IntKind.bits]
  omega
theorem keyLits_u8 (d : Nat) (x : Int) (h : 0 ≤ x ∧ x ≤ 255) : Tryd.prog.keyLits (d + 1) 5 [.int .u8 x] = some [.int .u8 x] := by
  unfold Program.keyLits
  rw [Tryd.underlying5]
  simp only [byteLit h, and_self, if_true]
theorem keyLits_hash (d : Nat) {xs : List Int} (h : Dig xs) : ∃ l, Tryd.prog.keyLits (d + 2) 24 (nums .u8 xs) = some l := by
  unfold Program.keyLits
  rw [Tryd.underlying24]
  have c1 : Tryd.prog.cellsOf 5 = 1 := by kernel_rfl
  have c2 : Tryd.prog.cellsOf 24 = 32 := by kernel_rfl
  simp only [c1, c2, nums_length, h.1, if_true]
  obtain ⟨ys, hys⟩ := mapM_all (f := fun i => Tryd.prog.keyLits (d + 1) 5 (((nums .u8 xs).drop (i * 1)).take 1)) (List.range 32) (fun i hi => by
    have hi' : i < 32 := List.mem_range.1 hi
    have e : ((nums .u8 xs).drop (i * 1)).take 1 = [.int .u8 (rd xs i)] := by
      rw [Nat.mul_one, List.drop_eq_getElem_cons (by rw [nums_length, h.1]; exact hi'), List.take_succ_cons, List.take_zero]
      have := nums_get .u8 xs i (by rw [h.1]; exact hi')
      rw [List.getElem?_eq_getElem (by rw [nums_length, h.1]; exact hi')] at this
      rw [Option.some.inj this]
    exact ⟨_, by rw [e]; exact keyLits_u8 d _ (h.2.rd i)⟩)
  exact ⟨ys.flatten, by rw [hys]; rfl⟩
theorem keyHash : KeyK Tryd.prog 24 hkv Dig where
  law := Maps.Keyed.of_law (deep_law_laid (by kernel_rfl) (m := 2) (by omega) (of_decide_eq_true (by kernel_rfl)) (by kernel_rfl) (by rw [Tryd.underlying24]))
  key := fun a ha => by
    obtain ⟨m, hm⟩ := typesN
    have hm0 : ∃ d, Tryd.prog.types.size + 1 = d + 2 := ⟨m, by omega⟩
    obtain ⟨d, hd⟩ := hm0
    obtain ⟨l, hl⟩ := keyLits_hash d ha
    have hk : Tryd.prog.keyType 24 = true := by kernel_rfl
    have hf : (hkv a).formed Tryd.prog 24 = true := by
      have c2 : Tryd.prog.cellsOf 24 = 32 := by kernel_rfl
      simp [hkv, Value.formed, Tryd.underlying24, c2, nums_length, ha.1]
    refine ⟨.string (keyBytes l), ?_⟩
    unfold keyOf
    rw [Tryd.underlying24]
    simp only [hk, hf, Bool.and_self, if_true, hd]
    show Option.map _ (Tryd.prog.keyLits (d + 2) 24 (nums .u8 a).toArray.toList) = _
    rw [List.toList_toArray, hl]
    rfl
  inj := fun a b h => by
    unfold hkv at h
    injection h with h
    have h1 : nums .u8 a = nums .u8 b := by simpa using h
    have h2 := congrArg (List.map (fun v : Value => match v with | .int _ x => x | _ => 0)) h1
    simpa [nums, List.map_map, Function.comp_def] using h2
end Go.Proofs.YtclkgflficlmiaaDoor
