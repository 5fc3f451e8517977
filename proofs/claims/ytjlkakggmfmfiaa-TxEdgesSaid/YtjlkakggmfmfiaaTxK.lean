/- Transactions: what their cells say, on any program; their bytes in plain terms. -/
import Derived.Test.YtjlkakggmfmfiaaKinds
import Derived.Test.YtjlkakggmfmfiaaNumPure
import Derived.Test.YtjlkakggmfmfiaaFrame
set_option maxRecDepth 100000
set_option linter.unusedVariables false
namespace Go.Proofs.Ytjlkakggmfmfiaa
open Go Go.ChangeShapes Go.WideShapes Go.ChangeAt Go.RowKit
structure TIn where
  id : List Int
  out : Int
  script : ByteArray
  seq : Int
  wit : List ByteArray
structure TOut where
  coins : Int
  script : ByteArray
structure TTx where
  ver : Int
  ins : List TIn
  outs : List TOut
  lock : Int
structure TIn.Ok (x : TIn) : Prop where
  idl : x.id.length = 32
  idb : Bytes x.id
  o0 : 0 ≤ x.out
  o1 : x.out ≤ 4294967295
  s0 : 0 ≤ x.seq
  s1 : x.seq ≤ 4294967295
  sc : x.script.size ≤ maxLen
  wit : ∀ s ∈ x.wit, s.size ≤ maxLen
structure TOut.Ok (x : TOut) : Prop where
  c0 : -9223372036854775808 ≤ x.coins
  c1 : x.coins ≤ 9223372036854775807
  sc : x.script.size ≤ maxLen
/-- An input's cells: 36. -/
def inCells (x : TIn) (v : Value) : List Value := nums .u8 x.id ++ [.int .u32 x.out, .string x.script, .int .u32 x.seq, v]
theorem inCells_length {x : TIn} (h : x.id.length = 32) (v : Value) : (inCells x v).length = 36 := by simp [inCells, nums_length, h]
theorem inCells_take {x : TIn} (h : x.id.length = 32) (v : Value) : (inCells x v).take 32 = nums .u8 x.id := by
  unfold inCells
  rw [List.take_append_of_le_length (by rw [nums_length, h]; exact Nat.le_refl _), List.take_of_length_le (by rw [nums_length, h]; exact Nat.le_refl _)]
theorem inCells_drop {x : TIn} (h : x.id.length = 32) (v : Value) : (inCells x v).drop 32 = [.int .u32 x.out, .string x.script, .int .u32 x.seq, v] := by
  unfold inCells
  rw [List.drop_append_of_le_length (by rw [nums_length, h]; exact Nat.le_refl _), List.drop_of_length_le (by rw [nums_length, h]; exact Nat.le_refl _), List.nil_append]
theorem inCells_at {x : TIn} (h : x.id.length = 32) (v : Value) (i : Nat) : (inCells x v)[32 + i]? = ([.int .u32 x.out, .string x.script, .int .u32 x.seq, v] : List Value)[i]? := by
  rw [← inCells_drop h v, List.getElem?_drop]
def inK : RK TIn where
  sz := 36
  K := fun S w x cs => ∃ A n c, cs = inCells x (.slice A n c) ∧ x.Ok ∧ n ≤ c ∧ c ≤ maxLen ∧ RK.str.C S w A n x.wit
  len := by
    rintro S w x cs ⟨A, n, c, rfl, h, _⟩
    exact inCells_length h.idl _
  one := by
    rintro S w x cs ⟨A, n, c, rfl, h, _⟩ u hu
    simp only [inCells, List.mem_append, List.mem_cons, List.not_mem_nil, or_false] at hu
    rcases hu with hu | rfl | rfl | rfl | rfl
    · exact nums_one _ _ u hu
    all_goals rfl
  move := by
    rintro S w w1 x cs hm ⟨A, n, c, h1, h2, h3, h4, h5⟩
    exact ⟨A, n, c, h1, h2, h3, h4, RK.C.move h5 hm⟩
  mono := by
    rintro S S' w x cs hm ⟨A, n, c, h1, h2, h3, h4, h5⟩
    exact ⟨A, n, c, h1, h2, h3, h4, RK.C.mono h5 hm⟩
def outK : RK TOut where
  sz := 2
  K := fun S w x cs => cs = [.int .i64 x.coins, .string x.script] ∧ x.Ok
  len := by
    rintro S w x cs ⟨rfl, _⟩
    rfl
  one := by
    rintro S w x cs ⟨rfl, _⟩ u hu
    simp only [List.mem_cons, List.not_mem_nil, or_false] at hu
    rcases hu with rfl | rfl <;> rfl
  move := fun _ h => h
  mono := fun _ h => h
def txK : RK TTx where
  sz := 4
  K := fun S w x cs => ∃ A1 n1 c1 A2 n2 c2, cs = [.int .i32 x.ver, .slice A1 n1 c1, .slice A2 n2 c2, .int .u32 x.lock] ∧ (-2147483648 ≤ x.ver ∧ x.ver ≤ 2147483647) ∧ (0 ≤ x.lock ∧ x.lock ≤ 4294967295) ∧ n1 ≤ c1 ∧ c1 ≤ maxLen ∧ n2 ≤ c2 ∧ c2 ≤ maxLen ∧ inK.C S w A1 n1 x.ins ∧ outK.C S w A2 n2 x.outs
  len := by
    rintro S w x cs ⟨A1, n1, c1, A2, n2, c2, rfl, _⟩
    rfl
  one := by
    rintro S w x cs ⟨A1, n1, c1, A2, n2, c2, rfl, _⟩ u hu
    simp only [List.mem_cons, List.not_mem_nil, or_false] at hu
    rcases hu with rfl | rfl | rfl | rfl <;> rfl
  move := by
    rintro S w w1 x cs hm ⟨A1, n1, c1, A2, n2, c2, h1, h2, h3, h4, h5, h6, h7, h8, h9⟩
    exact ⟨A1, n1, c1, A2, n2, c2, h1, h2, h3, h4, h5, h6, h7, RK.C.move h8 hm, RK.C.move h9 hm⟩
  mono := by
    rintro S S' w x cs hm ⟨A1, n1, c1, A2, n2, c2, h1, h2, h3, h4, h5, h6, h7, h8, h9⟩
    exact ⟨A1, n1, c1, A2, n2, c2, h1, h2, h3, h4, h5, h6, h7, RK.C.mono h8 hm, RK.C.mono h9 hm⟩
/-- What came in is of another kind, too. -/
theorem Came.conv {P : Program} {α β : Type} {t : TypeId} {d : RK α} {d' : RK β} (h : Came P t d) (hsz : d.sz = d'.sz) (hK : ∀ S w x cs, d.K S w x cs → ∃ y, d'.K S w y cs) : Came P t d' :=
  ⟨h.1.trans hsz, hsz ▸ h.2.1, fun hx => by
    obtain ⟨a, ha⟩ := h.2.2 hx
    exact hK _ _ _ _ ha⟩
abbrev inP : RK ((List Int × Int) × (ByteArray × (Int × List ByteArray))) := RK.pair (RK.pair (RK.hash 32) (RK.int .u32)) (RK.pair RK.str (RK.pair (RK.int .u32) (RK.slice RK.str)))
abbrev inP' : RK (List Int × (Int × (ByteArray × (Int × List ByteArray)))) := RK.pair (RK.hash 32) (RK.pair (RK.int .u32) (RK.pair RK.str (RK.pair (RK.int .u32) (RK.slice RK.str))))
abbrev outP : RK (Int × ByteArray) := RK.pair (RK.int .i64) RK.str
abbrev txP : RK (Int × (List TIn × (List TOut × Int))) := RK.pair (RK.int .i32) (RK.pair (RK.slice inK) (RK.pair (RK.slice outK) (RK.int .u32)))
theorem u32_rng {x : Int} (h : IntKind.u32.min ≤ x ∧ x ≤ IntKind.u32.max) : 0 ≤ x ∧ x ≤ 4294967295 := by
  simpa [IntKind.min, IntKind.max, IntKind.signed, IntKind.bits] using h
theorem i32_rng {x : Int} (h : IntKind.i32.min ≤ x ∧ x ≤ IntKind.i32.max) : -2147483648 ≤ x ∧ x ≤ 2147483647 := by
  simpa [IntKind.min, IntKind.max, IntKind.signed, IntKind.bits] using h
theorem i64_rng {x : Int} (h : IntKind.i64.min ≤ x ∧ x ≤ IntKind.i64.max) : -9223372036854775808 ≤ x ∧ x ≤ 9223372036854775807 := by
  simpa [IntKind.min, IntKind.max, IntKind.signed, IntKind.bits] using h
theorem inP_conv (S : Nat → Prop) (w : World) (x : (List Int × Int) × (ByteArray × (Int × List ByteArray))) (cs : List Value) (h : inP.K S w x cs) : ∃ y, inK.K S w y cs := by
  obtain ⟨⟨id, out⟩, script, seq, wit⟩ := x
  obtain ⟨c0, c1, rfl, ⟨c2, c3, rfl, ⟨rfl, hl, hb⟩, ⟨rfl, ho⟩⟩, ⟨c4, c5, rfl, ⟨rfl, hs⟩, ⟨c6, c7, rfl, ⟨rfl, hq⟩, ⟨A, n, c, rfl, h1, h2, h3⟩⟩⟩⟩ := h
  refine ⟨⟨id, out, script, seq, wit⟩, A, n, c, ?_, ⟨hl, hb, (u32_rng ho).1, (u32_rng ho).2, (u32_rng hq).1, (u32_rng hq).2, hs, h3.all_str⟩, h1, h2, h3⟩
  simp [inCells]
theorem inP'_conv (S : Nat → Prop) (w : World) (x : List Int × (Int × (ByteArray × (Int × List ByteArray)))) (cs : List Value) (h : inP'.K S w x cs) : ∃ y, inK.K S w y cs := by
  obtain ⟨id, out, script, seq, wit⟩ := x
  obtain ⟨c2, c3, rfl, ⟨rfl, hl, hb⟩, ⟨c8, c1, rfl, ⟨rfl, ho⟩, ⟨c4, c5, rfl, ⟨rfl, hs⟩, ⟨c6, c7, rfl, ⟨rfl, hq⟩, ⟨A, n, c, rfl, h1, h2, h3⟩⟩⟩⟩⟩ := h
  refine ⟨⟨id, out, script, seq, wit⟩, A, n, c, ?_, ⟨hl, hb, (u32_rng ho).1, (u32_rng ho).2, (u32_rng hq).1, (u32_rng hq).2, hs, h3.all_str⟩, h1, h2, h3⟩
  simp [inCells]
theorem outP_conv (S : Nat → Prop) (w : World) (x : Int × ByteArray) (cs : List Value) (h : outP.K S w x cs) : ∃ y, outK.K S w y cs := by
  obtain ⟨coins, script⟩ := x
  obtain ⟨c0, c1, rfl, ⟨rfl, hc⟩, ⟨rfl, hs⟩⟩ := h
  exact ⟨⟨coins, script⟩, rfl, ⟨(i64_rng hc).1, (i64_rng hc).2, hs⟩⟩
theorem txP_conv (S : Nat → Prop) (w : World) (x : Int × (List TIn × (List TOut × Int))) (cs : List Value) (h : txP.K S w x cs) : ∃ y, txK.K S w y cs := by
  obtain ⟨ver, ins, outs, lock⟩ := x
  obtain ⟨c0, c1, rfl, ⟨rfl, hv⟩, ⟨c2, c3, rfl, ⟨A1, n1, k1, rfl, h1, h2, h3⟩, ⟨c4, c5, rfl, ⟨A2, n2, k2, rfl, h4, h5, h6⟩, ⟨rfl, hl⟩⟩⟩⟩ := h
  exact ⟨⟨ver, ins, outs, lock⟩, A1, n1, k1, A2, n2, k2, rfl, i32_rng hv, u32_rng hl, h1, h2, h4, h5, h3, h6⟩
/-! ### bytes -/
/-- A number as Bitcoin lays it. -/
def compF (x : Nat) : List Int := if x < 253 then [(x : Int)] else if x ≤ 65535 then 253 :: leF 2 x else if x ≤ 4294967295 then 254 :: leF 4 x else 255 :: leF 8 x
theorem compF_length (x : Nat) : (compF x).length = if x < 253 then 1 else if x ≤ 65535 then 3 else if x ≤ 4294967295 then 5 else 9 := by
  unfold compF
  split
  · rfl
  · split
    · simp [leF_length]
    · split <;> simp [leF_length]
theorem compF_le (x : Nat) : 1 ≤ (compF x).length ∧ (compF x).length ≤ 9 := by rw [compF_length]; split <;> (try split) <;> (try split) <;> omega
theorem compF_bytes (x : Nat) : Bytes (compF x) := by
  unfold compF
  intro y hy
  split at hy
  · rw [List.mem_singleton.1 hy]; omega
  · split at hy
    · rcases List.mem_cons.1 hy with rfl | hy
      · omega
      · exact leF_bytes _ _ y hy
    · split at hy
      · rcases List.mem_cons.1 hy with rfl | hy
        · omega
        · exact leF_bytes _ _ y hy
      · rcases List.mem_cons.1 hy with rfl | hy
        · omega
        · exact leF_bytes _ _ y hy
/-- A text with its length ahead. -/
def textF (s : ByteArray) : List Int := compF s.size ++ bytesOf s
def layIn (x : TIn) : List Int := x.id ++ leF 4 x.out.toNat ++ textF x.script ++ leF 4 x.seq.toNat
def layOut (x : TOut) : List Int := leF 8 (x.coins % 18446744073709551616).toNat ++ textF x.script
def layWit (x : TIn) : List Int := compF x.wit.length ++ x.wit.flatMap textF
def layF (t : TTx) (wit : Bool) : List Int :=
  leF 4 (t.ver % 4294967296).toNat ++ (if wit then [0, 1] else []) ++ compF t.ins.length ++ t.ins.flatMap layIn ++ compF t.outs.length ++ t.outs.flatMap layOut ++ (if wit then t.ins.flatMap layWit else []) ++ leF 4 t.lock.toNat
def TTx.hasWit (t : TTx) : Bool := t.ins.any fun i => decide (0 < i.wit.length)
end Go.Proofs.Ytjlkakggmfmfiaa
