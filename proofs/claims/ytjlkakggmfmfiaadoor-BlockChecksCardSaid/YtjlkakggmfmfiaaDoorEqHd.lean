/- A header compared with itself; a header's bytes read again. -/
import Derived.Test.YtjlkakggmfmfiaaDoorParse
import Derived.Laws.StructEq
set_option maxRecDepth 100000
set_option linter.unusedVariables false
namespace Go.Proofs.YtjlkakggmfmfiaaDoor
open Go Go.RowKit
theorem part_hash (cs : List Value) (off : Nat) (x : List Int) (hx : (cs.drop off).take 32 = nums .u8 x) (W : World) : (part 25 cs.toArray off).run Tryd.prog W = .ok (.agg (nums .u8 x).toArray) W := by
  obtain ⟨i, hi, hs⟩ : ∃ i, Tryd.prog.info? 25 = some i ∧ i.size = 32 := by
    have h := info_hash
    cases h2 : Tryd.prog.info? 25 with
    | none => rw [h2] at h; cases h
    | some i => rw [h2] at h; exact ⟨i, rfl, by simpa using h⟩
  simp [part, isAgg, run_underlying Tryd.underlying25, sizeOf, typeInfo, hi, hs]
  exact hx
theorem part_cell (t : TypeId) (k : IntKind) (ht : Tryd.prog.underlying t = some (.int k)) (cs : List Value) (off : Nat) (v : Value) (hx : cs[off]? = some v) (W : World) : (part t cs.toArray off).run Tryd.prog W = .ok v W := by
  simp [part, isAgg, run_underlying ht, hx]
theorem eqHashN (d : Nat) (xs : List Int) (hx : xs.length = 32) (W : World) : (Op.equalIn (d + 2) 25 (.agg (nums .u8 xs).toArray) (.agg (nums .u8 xs).toArray)).run Tryd.prog W = .ok true W := by
  rw [run_equalIn_nums (P := Tryd.prog) W d 25 5 32 .u8 .u8 Tryd.underlying25 Tryd.underlying5 info_u8 xs xs hx hx, beq_self_eq_true]
theorem eq_hd (h : Hd) (k : h.Ok) (W : World) : (Op.equalIn 10000 53 (.agg h.cells.toArray) (.agg h.cells.toArray)).run Tryd.prog W = .ok true W := by
  rw [run_equalIn_struct W 9999 53 _ _ (by kernel_rfl) (by kernel_rfl)]
  have p0 := part_cell 21 .i32 Tryd.underlying21 h.cells 0 _ (Hd.at0 h)
  have p1 := part_hash h.cells 1 h.prev (Hd.drop1 k)
  have p2 := part_hash h.cells 33 h.root (Hd.drop33 k)
  have p3 := part_cell 27 .u32 Tryd.underlying27 h.cells 65 _ (Hd.at65 k)
  have p4 := part_cell 27 .u32 Tryd.underlying27 h.cells 66 _ (Hd.at66 k)
  have p5 := part_cell 27 .u32 Tryd.underlying27 h.cells 67 _ (Hd.at67 k)
  have e1 := eqHashN 9997 h.prev k.prev.1
  have e2 := eqHashN 9997 h.root k.root.1
  simp only [Program.fieldsOf, Tryd.underlying53]
  simp [Op.eqFields, p0, p1, p2, p3, p4, p5, e1, e2, run_equalIn_int _ 9998 _ _ _ _ _ Tryd.underlying21, run_equalIn_int _ 9998 _ _ _ _ _ Tryd.underlying27]
theorem parse_bytes (h : Hd) (k : h.Ok) (more : List Int) : parseF (hbF h ++ more) = h := by
  have h1 := leF_length 4 (h.ver % 4294967296).toNat
  have h2 := k.prev.1
  have h3 := k.root.1
  have h4 := leF_length 4 h.time.toNat
  have h5 := leF_length 4 h.bits.toNat
  have h6 := leF_length 4 h.nonce.toNat
  have d0 : (hbF h ++ more).take 4 = leF 4 (h.ver % 4294967296).toNat := by
    simp only [hbF, List.append_assoc]
    exact List.take_left' h1
  have e4 : (hbF h ++ more).drop 4 = h.prev ++ (h.root ++ (leF 4 h.time.toNat ++ (leF 4 h.bits.toNat ++ (leF 4 h.nonce.toNat ++ more)))) := by
    simp only [hbF, List.append_assoc]
    exact List.drop_left' h1
  have e36 : (hbF h ++ more).drop 36 = h.root ++ (leF 4 h.time.toNat ++ (leF 4 h.bits.toNat ++ (leF 4 h.nonce.toNat ++ more))) := by
    rw [show (36 : Nat) = 4 + 32 from rfl, ← List.drop_drop, e4]
    exact List.drop_left' h2
  have e68 : (hbF h ++ more).drop 68 = leF 4 h.time.toNat ++ (leF 4 h.bits.toNat ++ (leF 4 h.nonce.toNat ++ more)) := by
    rw [show (68 : Nat) = 36 + 32 from rfl, ← List.drop_drop, e36]
    exact List.drop_left' h3
  have e72 : (hbF h ++ more).drop 72 = leF 4 h.bits.toNat ++ (leF 4 h.nonce.toNat ++ more) := by
    rw [show (72 : Nat) = 68 + 4 from rfl, ← List.drop_drop, e68]
    exact List.drop_left' h4
  have e76 : (hbF h ++ more).drop 76 = leF 4 h.nonce.toNat ++ more := by
    rw [show (76 : Nat) = 72 + 4 from rfl, ← List.drop_drop, e72]
    exact List.drop_left' h5
  unfold parseF
  rw [d0, e4, e36, e68, e72, e76, List.take_left' h2, List.take_left' h3, List.take_left' h4, List.take_left' h5, List.take_left' h6, ofLE_leF, ofLE_leF, ofLE_leF, ofLE_leF, IntKind.wrap_i32]
  have := k.v0
  have := k.v1
  have := k.t0
  have := k.t1
  have := k.b0
  have := k.b1
  have := k.n0
  have := k.n1
  obtain ⟨v, p, r, t, b, n⟩ := h
  simp only [Hd.mk.injEq, true_and] at *
  refine ⟨?_, ?_, ?_, ?_⟩ <;> omega
end Go.Proofs.YtjlkakggmfmfiaaDoor
