/- A struct literal of an input, its digest among the parts. -/
import Derived.Test.YtjlkakggmfmfiaaBig07
import Derived.Laws.Tables
set_option maxRecDepth 100000
set_option linter.unusedVariables false
namespace Go.Proofs.Ytjlkakggmfmfiaa
open Go Go.RowKit
theorem list32 {α : Type} (l : List α) (h : l.length = 32) : ∃ a0 a1 a2 a3 a4 a5 a6 a7 a8 a9 a10 a11 a12 a13 a14 a15 a16 a17 a18 a19 a20 a21 a22 a23 a24 a25 a26 a27 a28 a29 a30 a31, l = [a0, a1, a2, a3, a4, a5, a6, a7, a8, a9, a10, a11, a12, a13, a14, a15, a16, a17, a18, a19, a20, a21, a22, a23, a24, a25, a26, a27, a28, a29, a30, a31] := by
  match l, h with
  | [a0, a1, a2, a3, a4, a5, a6, a7, a8, a9, a10, a11, a12, a13, a14, a15, a16, a17, a18, a19, a20, a21, a22, a23, a24, a25, a26, a27, a28, a29, a30, a31], _ => exact ⟨a0, a1, a2, a3, a4, a5, a6, a7, a8, a9, a10, a11, a12, a13, a14, a15, a16, a17, a18, a19, a20, a21, a22, a23, a24, a25, a26, a27, a28, a29, a30, a31, rfl⟩
theorem built_in (x : TIn) (h : x.id.length = 32) (A : Option Addr) (n c : Nat) : Try.prog.built 69 [(0, .agg (nums .u8 x.id).toArray), (1, .int .u32 x.out), (2, .string x.script), (3, .int .u32 x.seq), (4, .slice A n c)] = some (inCells x (.slice A n c)).toArray := by
  obtain ⟨id, out, script, seq, wit⟩ := x
  obtain ⟨a0, a1, a2, a3, a4, a5, a6, a7, a8, a9, a10, a11, a12, a13, a14, a15, a16, a17, a18, a19, a20, a21, a22, a23, a24, a25, a26, a27, a28, a29, a30, a31, hl⟩ := list32 id h
  subst hl
  kernel_rfl
theorem wpList_build_in {ops : Array Oper} {rest : List Oper} {o : Oper} {a : Act} {w : World} {Q : Exit → Act → World → Prop} (hg : o.guard = none) (parts : Array (Nat × Operand)) (ho : o.op = .build 69 parts)
    (x : TIn) (hx : x.id.length = 32) (A : Option Addr) (n c : Nat) (hp : parts.toList.map (fun y => (y.1, a.eval y.2)) = [(0, .agg (nums .u8 x.id).toArray), (1, .int .u32 x.out), (2, .string x.script), (3, .int .u32 x.seq), (4, .slice A n c)])
    (h : wpList Try.prog ops Q rest (a.put o.dst (.agg (inCells x (.slice A n c)).toArray)) w) : wpList Try.prog ops Q (o :: rest) a w := by
  have hp' : (parts.map fun (i, y) => (i, a.eval y)).toList = [(0, .agg (nums .u8 x.id).toArray), (1, .int .u32 x.out), (2, .string x.script), (3, .int .u32 x.seq), (4, .slice A n c)] := by
    rw [Array.toList_map]
    exact hp
  refine wpList_build hg 69 parts ho ?_ ?_
  · rw [hp', built_in x hx]; rfl
  · rw [hp', built_in x hx]; exact h
end Go.Proofs.Ytjlkakggmfmfiaa
