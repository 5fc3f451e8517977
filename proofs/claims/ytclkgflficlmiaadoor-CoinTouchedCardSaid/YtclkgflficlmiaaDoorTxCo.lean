/- tx.Coins, First, Nowhere, and the law of plain sums. -/
import Derived.Test.YtclkgflficlmiaaDoorLayIns
import Derived.Laws.StructEq
import Derived.Laws.Tables
import Derived.BigQuiet
set_option maxRecDepth 100000
set_option linter.unusedVariables false
namespace Go.Proofs.YtclkgflficlmiaaDoor
open Go Go.RowKit
/-- A point's cells. -/
def ptL (xs : List Int) (o : Int) : List Value := nums .u8 xs ++ [.int .u32 o]
def Now (w : World) : Prop := w.rangeAt 0 0 (ptL zeros32 4294967295)
theorem Now.below {w w' : World} (h : Now w) (hb : Below w.heap.size w w') : Now w' := range_below hb h
theorem ptL_length {xs : List Int} (h : xs.length = 32) (o : Int) : (ptL xs o).length = 33 := by simp [ptL, nums_length, h]
theorem info_pt {xs : List Int} (h : xs.length = 32) (o : Int) : (Tryd.prog.info? 64).map (·.size) = some (ptL xs o).length := by rw [ptL_length h]; kernel_rfl
theorem zeros32_len : zeros32.length = 32 := by rfl
theorem range_take {w : World} {b o : Nat} {xs ys : List Value} (h : w.rangeAt b o (xs ++ ys)) : w.rangeAt b o xs := fun j v hv => by
  refine h j v ?_
  rw [List.getElem?_append_left (by rcases Nat.lt_or_ge j xs.length with h1 | h1; exact h1; rw [List.getElem?_eq_none h1] at hv; cases hv)]
  exact hv
theorem range_in_pt {w : World} {b o : Nat} {x : TIn} {v : Value} (h : w.rangeAt b o (inCells x v)) : w.rangeAt b o (ptL x.id x.out) := by
  have e : inCells x v = ptL x.id x.out ++ [.string x.script, .int .u32 x.seq, v] := by simp [inCells, ptL]
  rw [e] at h
  exact range_take h
theorem range_pt_id {w : World} {b o : Nat} {xs : List Int} {v : Int} (h : w.rangeAt b o (ptL xs v)) : w.rangeAt b o (nums .u8 xs) := range_take h
theorem info_hh (xs : List Int) (h : xs.length = 32) : (Tryd.prog.info? 24).map (·.size) = some (nums .u8 xs).length := by rw [nums_length, h]; kernel_rfl
theorem part_hash0 (cs : List Value) (off : Nat) (x : List Int) (hx : (cs.drop off).take 32 = nums .u8 x) (W : World) : (part 24 cs.toArray off).run Tryd.prog W = .ok (.agg (nums .u8 x).toArray) W := by
  obtain ⟨i, hi, hs⟩ : ∃ i, Tryd.prog.info? 24 = some i ∧ i.size = 32 := by
    have h : (Tryd.prog.info? 24).map (·.size) = some 32 := by kernel_rfl
    cases h2 : Tryd.prog.info? 24 with
    | none => rw [h2] at h; cases h
    | some i => rw [h2] at h; exact ⟨i, rfl, by simpa using h⟩
  simp [part, isAgg, run_underlying Tryd.underlying24, sizeOf, typeInfo, hi, hs]
  exact hx
theorem part_cell0 (t : TypeId) (k : IntKind) (ht : Tryd.prog.underlying t = some (.int k)) (cs : List Value) (off : Nat) (v : Value) (hx : cs[off]? = some v) (W : World) : (part t cs.toArray off).run Tryd.prog W = .ok v W := by
  simp [part, isAgg, run_underlying ht, hx]
theorem ptL_take {xs : List Int} (h : xs.length = 32) (o : Int) : ((ptL xs o).drop 0).take 32 = nums .u8 xs := by
  unfold ptL
  rw [List.drop_zero, List.take_left' (by rw [nums_length, h])]
theorem ptL_at {xs : List Int} (h : xs.length = 32) (o : Int) : (ptL xs o)[32]? = some (.int .u32 o) := by
  unfold ptL
  rw [List.getElem?_append_right (by rw [nums_length, h]; omega), nums_length, h]
  rfl
theorem eq_pt (xs ys : List Int) (o p : Int) (hx : xs.length = 32) (hy : ys.length = 32) (W : World) : (Op.equalIn 10000 64 (.agg (ptL xs o).toArray) (.agg (ptL ys p).toArray)).run Tryd.prog W = .ok (xs == ys && o == p) W := by
  rw [run_equalIn_struct W 9999 64 _ _ (by kernel_rfl) (by kernel_rfl)]
  have p0 := part_hash0 (ptL xs o) 0 xs (ptL_take hx o)
  have q0 := part_hash0 (ptL ys p) 0 ys (ptL_take hy p)
  have p1 := part_cell0 26 .u32 Tryd.underlying26 (ptL xs o) 32 _ (ptL_at hx o)
  have q1 := part_cell0 26 .u32 Tryd.underlying26 (ptL ys p) 32 _ (ptL_at hy p)
  have e1 := fun W => run_equalIn_nums (P := Tryd.prog) W 9997 24 5 32 .u8 .u8 Tryd.underlying24 Tryd.underlying5 info_u8 xs ys hx hy
  simp only [Program.fieldsOf, Tryd.underlying64]
  cases hb : xs == ys <;> cases hc : o == p <;>
  simp [Op.eqFields, p0, p1, q0, q1, e1, hb, hc, run_equalIn_int _ 9998 _ _ _ _ _ Tryd.underlying26]
def firstF (t : TTx) : Bool := match t.ins with | [x] => x.id == zeros32 && x.out == 4294967295 | _ => false
/-! ### sums -/
def topM : Int := 2100000000000000
def cg : List TOut → Int → Option Int
  | [], s => some s
  | c :: r, s => if c.coins < 0 ∨ topM - s < c.coins then none else cg r (s + c.coins)
theorem cg_drop {l : List TOut} {k : Nat} {x : TOut} (h : l[k]? = some x) (s : Int) : cg (l.drop k) s = if x.coins < 0 ∨ topM - s < x.coins then none else cg (l.drop (k + 1)) (s + x.coins) := by
  obtain ⟨hk, hx⟩ := List.getElem?_eq_some_iff.1 h
  rw [List.drop_eq_getElem_cons hk, hx]
  rfl
def coinsV (t : TTx) : Value := match cg t.outs 0 with | some s => .tuple #[.int .i64 s, .bool true] | none => .tuple #[.int .i64 0, .bool false]
section
variable {P : Program}
theorem wpQuiet_load_midG {ops : Array Oper} {rest : List Oper} {o : Oper} {a : Act} {w : World} {Q : Act → Prop} (hgd : Region.wanted o (yielded ops a.tmps) = true) (ty : TypeId) (x : Operand) (ho : o.op = .load ty x)
    (b off : Nat) (hx : a.eval x = .pointer (some ⟨b, off, none⟩)) (cs : List Value) (d : TypeDesc) (hr : w.rangeAt b off cs)
    (hu : P.underlying ty = some d) (hd : d.isRow = true) (hi : (P.info? ty).map (·.size) = some cs.length)
    (h : wpQuiet P ops (fun w' => ∃ n, w' = w.drewN n) Q rest (a.put o.dst (.agg cs.toArray))) : wpQuiet P ops (fun w' => ∃ n, w' = w.drewN n) Q (o :: rest) a :=
  BigFrame.wpQuiet_want hgd fun K hK => ⟨_, fun W hW => by
    obtain ⟨n, rfl⟩ := hW
    unfold Oper.quietAt execOp
    have hr' : (w.drewN n).rangeAt b off cs := hr
    simp only [ho, hx, Instr.loadAt, Instr.sureAddr, Sem.run_bind, Sem.run_pure, Result.andThen_ok, run_loadVar_mid (w.drewN n) b off ty cs d hr' hu hd hi]
    exact ⟨rfl, rfl⟩, hK _ h⟩
theorem wpList_load_midG {ops : Array Oper} {rest : List Oper} {o : Oper} {a : Act} {w : World} {Q : Exit → Act → World → Prop} (hgd : Region.wanted o (yielded ops a.tmps) = true) (ty : TypeId) (x : Operand) (ho : o.op = .load ty x)
    (b off : Nat) (hx : a.eval x = .pointer (some ⟨b, off, none⟩)) (cs : List Value) (d : TypeDesc) (hr : w.rangeAt b off cs)
    (hu : P.underlying ty = some d) (hd : d.isRow = true) (hi : (P.info? ty).map (·.size) = some cs.length)
    (h : wpList P ops Q rest (a.put o.dst (.agg cs.toArray)) w) : wpList P ops Q (o :: rest) a w :=
  wpList_want hgd fun _ hK => wp_load_mid ty x ho b off hx cs d hr hu hd hi (hK _ _ h)
end
theorem nowhere_calls (w : World) (hN : Now w) : Calls Tryd.prog 34 #[] w fun e w' => e = .returned (.agg (ptL zeros32 4294967295).toArray) ∧ Below w.heap.size w w' := by
  have hU := Tryd.underlying64
  have hi := info_pt zeros32_len 4294967295
  have hb0 : Below w.heap.size w (w.alloc (.cells (ptL zeros32 0).toArray 64)) := (Below.refl _ _).alloc (Nat.le_refl _) _
  have hg0 := heap_alloc_new w (.cells (ptL zeros32 0).toArray 64)
  have hn0 := hN.below hb0
  unfold Now at hn0
  go_enter Tryd.func34, Tryd.ntmps34
  go_upto_region 1 with fail
  refine wp_gen (q := fun wi => Below w.heap.size w wi ∧ wi.heap[w.heap.size]? = some (.cells (ptL zeros32 0).toArray 64) ∧ wi.rangeAt 0 0 (ptL zeros32 4294967295)) ⟨hb0, hg0, hn0⟩ (fun w0 hw => ?_)
  clear hb0 hg0 hn0
  obtain ⟨hb0, hg0, hn0⟩ := hw
  go_wp2_with (first | (refine wpList_load_mid rfl 64 (.global 0) rfl 0 0 rfl (ptL zeros32 4294967295) _ hn0 hU rfl hi ?_) | (refine wpList_store_any rfl 64 (.tmp 0) (.tmp 1) rfl w.heap.size (ptL zeros32 4294967295).toArray rfl rfl 64 (ptL zeros32 0).toArray hg0 (by kernel_rfl) (by kernel_rfl) (by kernel_rfl) ?_; intro w2 g2 ht2))
  have hsz : (Tryd.prog.info? 64).map (·.size) = some (ptL zeros32 4294967295).toArray.size := by kernel_rfl
  exact bodyPost_ret (results_cell_row rfl _ _ w.heap.size 64 (ptL zeros32 4294967295).toArray (0, 0) _ rfl g2 hU rfl hsz) rfl ⟨rfl, ht2.below hb0 (Nat.le_refl _)⟩
set_option maxHeartbeats 4000000 in
theorem first_calls (w : World) (S : Nat → Prop) (t : TTx) (cs : List Value) (hK : txK.K S w t cs) (hN : Now w) : Calls Tryd.prog 26 #[.agg cs.toArray] w fun e w' => e = .returned (.bool (firstF t)) ∧ Below w.heap.size w w' := by
  obtain ⟨A1, n1, k1, A2, n2, k2, rfl, _, _, h1, h2, h3, h4, hI, hO⟩ := hK
  have hl := hI.len
  have hU := Tryd.underlying64
  have hi := info_pt zeros32_len 4294967295
  unfold maxLen at h2 h4
  have hb0 : Below w.heap.size w (w.alloc (.cells #[.int .i32 t.ver, .slice A1 n1 k1, .slice A2 n2 k2, .int .u32 t.lock] 54)) := (Below.refl _ _).alloc (Nat.le_refl _) _
  have hg0 := heap_alloc_new w (.cells #[.int .i32 t.ver, .slice A1 n1 k1, .slice A2 n2 k2, .int .u32 t.lock] 54)
  by_cases e1 : n1 = 1
  · subst e1
    obtain ⟨b, o, x, Aw, nw, cw, hA, hx, hr, hok, _, _, _⟩ := in_at hI 0 (by omega)
    subst hA
    have hrp := range_below hb0 (range_in_pt hr)
    rw [Nat.zero_mul, Nat.add_zero] at hrp
    have hNN := hN.below hb0
    unfold Now at hNN
    have hix := info_pt hok.idl x.out
    have hE := eq_pt x.id zeros32 x.out 4294967295 hok.idl zeros32_len
    have hf : firstF t = (x.id == zeros32 && x.out == 4294967295) := by
      obtain ⟨y, hy⟩ := List.length_eq_one_iff.1 hl
      rw [hy] at hx
      obtain rfl := Option.some.inj hx
      unfold firstF
      rw [hy]
    rw [hf]
    generalize hz : (x.id == zeros32 && x.out == 4294967295) = z at hE ⊢
    clear hf hz hI hO hr hl hx
    go_enter Tryd.func26, Tryd.ntmps26
    go_upto_region 1 with fail
    refine wp_region_quiet_lit (by kernel_rfl) (by kernel_rfl) ?_
    repeat (first | (refine wpQuiet_load_midG rfl 64 (.tmp 11) rfl b o rfl (ptL x.id x.out) _ hrp hU rfl hix ?_) | (refine wpQuiet_load_midG rfl 64 (.global 0) rfl 0 0 rfl (ptL zeros32 4294967295) _ hNN hU rfl hi ?_) | go_big_quiet_step (fail) | quiet_step (fail))
    refine wpQuiet_nil ?_
    rintro _ ⟨nq, rfl⟩
    go_wp2
    go_ret
    exact ⟨rfl, below_drewN hb0 nq⟩
  · have e1' : ((n1 : Int) == 1) = false := beq_eq_false_iff_ne.2 (by omega)
    have hf : firstF t = false := by
      unfold firstF
      split
      · rename_i y hy; rw [hy] at hl; simp at hl; omega
      · rfl
    rw [hf]
    clear hf hI hO hl
    go_enter Tryd.func26, Tryd.ntmps26
    go_upto_region 1 with fail
    refine wp_region_quiet_lit (by kernel_rfl) (by kernel_rfl) ?_
    repeat (first | go_big_quiet_step (fail) | quiet_step (fail))
    refine wpQuiet_nil ?_
    rintro _ ⟨nq, rfl⟩
    go_wp2
    go_ret
    exact ⟨rfl, below_drewN hb0 nq⟩
set_option maxHeartbeats 4000000 in
theorem coins_calls (w : World) (S : Nat → Prop) (t : TTx) (cs : List Value) (hK : txK.K S w t cs) : Calls Tryd.prog 27 #[.agg cs.toArray] w fun e w' => e = .returned (coinsV t) ∧ Below w.heap.size w w' := by
  obtain ⟨A1, n1, k1, A2, n2, k2, rfl, _, _, h1, h2, h3, h4, hI, hO⟩ := hK
  have hl := Lib.hid hO.len
  have hU3 := Tryd.underlying62
  unfold maxLen at h2 h4
  have hn2 : (n2 : Int) ≤ 9223372036854775807 := by omega
  have hb0 : Below w.heap.size w (w.alloc (.cells #[.int .i32 t.ver, .slice A1 n1 k1, .slice A2 n2 k2, .int .u32 t.lock] 54)) := (Below.refl _ _).alloc (Nat.le_refl _) _
  have hg0 := heap_alloc_new w (.cells #[.int .i32 t.ver, .slice A1 n1 k1, .slice A2 n2 k2, .int .u32 t.lock] 54)
  go_enter Tryd.func27, Tryd.ntmps27
  go_upto_region 1 with fail
  refine wp_gen (q := fun wi => Below w.heap.size w wi ∧ wi.heap[w.heap.size]? = some (.cells #[.int .i32 t.ver, .slice A1 n1 k1, .slice A2 n2 k2, .int .u32 t.lock] 54)) ⟨hb0, hg0⟩ (fun w0 hw => ?_)
  clear hb0 hg0
  obtain ⟨hb0, hg0⟩ := hw
  have t2 : w0.cell? ⟨w.heap.size, 2, none⟩ = some (.slice A2 n2 k2) := blk_cell hg0 rfl
  have hO0 := RK.C.below hO hb0
  clear hg0 hI hO
  go_wp2
  go_loopw [4, 10] (fun v4 v10 wr => ∃ (k : Nat) (s : Int), k ≤ n2 ∧ v10 = .int .i64 k ∧ v4 = .int .i64 s ∧ 0 ≤ s ∧ s ≤ topM ∧ cg t.outs 0 = cg (t.outs.drop k) s ∧ Below w0.heap.size w0 wr) (fun _ v _ => n2 - (intOf v).toNat)
  case atStart => exact ⟨0, 0, by omega, rfl, rfl, by omega, by decide, rfl, Below.refl _ _⟩
  case round =>
    obtain ⟨k, s, hk, rfl, rfl, hs0, hs1, hcg, hB⟩ := hrel
    have hbw := below_then hb0 hb0.size hB
    unfold topM at hs1
    by_cases hlt : k < n2
    · have hlt' : (k : Int) < (n2 : Int) := by omega
      have hkk : (0 : Int) ≤ (k : Int) := by omega
      obtain ⟨bo, oo, x, hAo, hxo, hc0, hc1, hoo⟩ := out_at hO0 k hlt
      subst hAo
      have hc0' := cell_below hB hc0
      have hc1' := cell_below hB hc1
      have hsc := hoo.sc
      have hx0 := hoo.c0
      have hx1 := hoo.c1
      have HCG : Hid (cg t.outs 0 = if x.coins < 0 ∨ topM - s < x.coins then none else cg (t.outs.drop (k + 1)) (s + x.coins)) := Lib.hid (by rw [hcg, cg_drop hxo])
      unfold maxLen at hsc
      clear hxo hc0 hc1 hcg
      by_cases e1 : x.coins < 0
      · have HV : Hid (coinsV t = .tuple #[.int .i64 0, .bool false]) := Lib.hid (by unfold coinsV; rw [HCG.out, if_pos (Or.inl e1)])
        clear HCG
        go_wp2
        go_ret2
        rw [HV.out]
        exact ⟨rfl, hbw.alloc hbw.size _⟩
      · have e1' : decide (x.coins < 0) = false := decide_eq_false e1
        by_cases e2 : 2100000000000000 < x.coins
        · have HV : Hid (coinsV t = .tuple #[.int .i64 0, .bool false]) := Lib.hid (by unfold coinsV; rw [HCG.out, if_pos (Or.inr (by unfold topM; omega))])
          clear HCG
          go_wp2
          go_ret2
          rw [HV.out]
          exact ⟨rfl, hbw.alloc hbw.size _⟩
        · by_cases e3 : 2100000000000000 < s + x.coins
          · have HV : Hid (coinsV t = .tuple #[.int .i64 0, .bool false]) := Lib.hid (by unfold coinsV; rw [HCG.out, if_pos (Or.inr (by unfold topM; omega))])
            clear HCG
            have hw : wrap64 (s + x.coins) = s + x.coins := by unfold wrap64; omega
            go_wp2
            go_ret2
            rw [HV.out]
            exact ⟨rfl, hbw.alloc hbw.size _⟩
          · have HR : Hid (cg t.outs 0 = cg (t.outs.drop (k + 1)) (s + x.coins)) := Lib.hid (by rw [HCG.out, if_neg (by unfold topM; omega)])
            clear HCG
            go_wp2
            go_roundw
            case rel => exact ⟨k + 1, s + x.coins, by omega, by go_num, by go_num, by omega, by unfold topM; omega, HR.out, hB.alloc hB.size _⟩
            case measure => simp [intOf]; omega
    · have hlt' : ¬ (k : Int) < (n2 : Int) := by omega
      have HV : Hid (coinsV t = .tuple #[.int .i64 s, .bool true]) := Lib.hid (by unfold coinsV; rw [hcg, List.drop_eq_nil_of_le (by have := hl.out; omega)]; rfl)
      clear hcg
      go_wp2
      go_ret2
      rw [HV.out]
      exact ⟨rfl, hbw⟩
end Go.Proofs.YtclkgflficlmiaaDoor
