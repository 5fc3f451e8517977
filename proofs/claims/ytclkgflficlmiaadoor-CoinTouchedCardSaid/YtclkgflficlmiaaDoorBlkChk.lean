/- block.Check: what is wrong with a block by itself. -/
import Derived.Test.YtclkgflficlmiaaDoorBlkIds
import Derived.Test.YtclkgflficlmiaaDoorTxCo
import Derived.Test.YtclkgflficlmiaaDoorKeyH
import Derived.Test.YtclkgflficlmiaaDoorBig08
set_option maxRecDepth 100000
set_option linter.unusedVariables false
namespace Go.Proofs.YtclkgflficlmiaaDoor
open Go Go.RowKit
def okC (t : TTx) : Bool := (cg t.outs 0).isSome
theorem coinsV_form (t : TTx) : ∃ z, coinsV t = .tuple #[.int .i64 z, .bool (okC t)] := by
  unfold coinsV okC
  cases cg t.outs 0 with
  | none => exact ⟨0, rfl⟩
  | some s => exact ⟨s, rfl⟩
def first0 : List TTx → Bool
  | [] => false
  | t :: _ => firstF t
def chk1 : Nat → List TTx → Int
  | _, [] => 0
  | i, t :: r => if encErr t ≠ 0 then 2 else if 0 < i ∧ firstF t = true then 2 else if okC t = false then 24 else chk1 (i + 1) r
/-- The error of a block by itself. -/
def chkF (h : Hd) (ts : List TTx) : Int :=
  if first0 ts = false then 2 else if chk1 0 ts ≠ 0 then chk1 0 ts else if (idsF ts).Nodup then (if rootF (idsF ts) = h.root then 0 else 21) else 23
theorem chk1_step {ts : List TTx} {k : Nat} {x : TTx} (hx : ts[k]? = some x) (i : Nat) : chk1 i (ts.drop k) = if encErr x ≠ 0 then 2 else if 0 < i ∧ firstF x = true then 2 else if okC x = false then 24 else chk1 (i + 1) (ts.drop (k + 1)) := by
  obtain ⟨hk, he⟩ := List.getElem?_eq_some_iff.1 hx
  rw [List.drop_eq_getElem_cons hk, he, chk1]
theorem lookup_mark (l : List (List Int)) (x : List Int) : (l.map (fun y => (y, true))).lookup x = if x ∈ l then some true else none := by
  induction l with
  | nil => rfl
  | cons y l ih =>
    rw [List.map_cons, List.lookup_cons]
    by_cases h : x = y
    · subst h
      rw [beq_self_eq_true, if_pos (by simp)]
    · rw [beq_eq_false_iff_ne.2 h, ih]
      simp only [List.mem_cons, h, false_or]
theorem nodup_take {l : List (List Int)} {k : Nat} {x : List Int} (hx : l[k]? = some x) (h : (l.take k).Nodup) : (l.take (k + 1)).Nodup ↔ x ∉ l.take k := by
  rw [List.take_add_one, hx]
  simp only [Option.toList_some]
  rw [List.nodup_append]
  constructor
  · intro h2 hm
    exact h2.2.2 x hm x (by simp) rfl
  · intro hm
    refine ⟨h, by simp, fun a ha b hb e => hm ?_⟩
    rw [← List.mem_singleton.1 hb, ← e]
    exact ha
theorem range_sub {w : World} {b o : Nat} {cs : List Value} (h : w.rangeAt b o cs) (i m : Nat) : w.rangeAt b (o + i) ((cs.drop i).take m) := fun j v hv => by
  rcases Nat.lt_or_ge j m with hj | hj
  · rw [List.getElem?_take_of_lt hj, List.getElem?_drop] at hv
    rw [Nat.add_assoc]
    exact h _ v hv
  · rw [List.getElem?_eq_none (by rw [List.length_take]; omega)] at hv
    cases hv
theorem range_headB {w : World} {b : Nat} {h : Hd} {A : Option Addr} {n c : Nat} {t : TypeId} {fz : Nat × Nat} (hg : w.heap[b]? = some (.cells (blkCells h A n c).toArray t fz)) : w.rangeAt b 0 h.cells := fun j v hv => by
  refine range_block hg j v ?_
  unfold blkCells
  rw [List.getElem?_append_left (List.getElem?_eq_some_iff.1 hv).1]
  exact hv
section
variable {P : Program} {ops : Array Oper} {rest : List Oper} {o : Oper} {a : Act} {w w' : World} {Q : Exit → Act → World → Prop}
theorem wpList_lookV (hg : o.guard = none) (m x : Operand) (t : TypeId) (c : Bool) (hop : o.op = Op.lookup t m x c) (mv key v : Value) (hm : a.eval m = mv) (hx : a.eval x = key) (hrun : (Instr.lookup t mv key c).run P w = .ok v w)
    (h : wpList P ops Q rest (a.put o.dst v) w) : wpList P ops Q (o :: rest) a w := by
  refine wpList_plain hg fun K' hK' => ?_
  unfold Oper.wp
  simp [execOp, hop, hm, hx, hrun, Result.andThen]
  exact hK' _ _ h
theorem wpList_mapUpd (hg : o.guard = none) (m x v : Operand) (t : TypeId) (hop : o.op = Op.mapUpdate t m x v) (mv key val : Value) (hm : a.eval m = mv) (hx : a.eval x = key) (hv : a.eval v = val) (hrun : (Instr.mapUpdate t mv key val).run P w = .ok () w')
    (h : wpList P ops Q rest (a.put o.dst undef) w') : wpList P ops Q (o :: rest) a w := by
  refine wpList_plain hg fun K' hK' => ?_
  unfold Oper.wp
  simp [execOp, hop, hm, hx, hv, hrun, Result.andThen]
  exact hK' _ _ h
end
theorem zero_bool (w : World) : (zeroValue 4).run Tryd.prog w = .ok (.bool false) w := by kernel_rfl
set_option maxHeartbeats 8000000 in
theorem chk_calls (w : World) (hT : Tabs w) (hN : Now w) (S : Nat → Prop) (h : Hd) (hk : h.Ok) (A : Option Addr) (n c : Nat) (ts : List TTx) (hnc : n ≤ c) (hcm : c ≤ maxLen) (hn : n ≤ 1000000) (hC : txK.C S w A n ts) :
    Calls Tryd.prog 32 #[.agg (blkCells h A n c).toArray] w fun e w' => e = .returned (.int .i64 (chkF h ts)) ∧ Below w.heap.size w w' := by
  have hU := Tryd.underlying54
  have hUB := Tryd.underlying49
  have hUD := Tryd.underlying24
  have hUM := Tryd.underlying114
  have hiB := info_blkA hk A n c
  have hiR := info_hh h.root hk.root.1
  have hcm' := hcm
  unfold maxLen at hcm'
  have hnI : (n : Int) ≤ 9223372036854775807 := by omega
  have hln := Lib.hid hC.len
  have hOk := Lib.hid (fun t ht => by
    obtain ⟨i, hi, rfl⟩ := List.mem_iff_getElem.1 ht
    obtain ⟨b, o, hA, _, _, hc⟩ := hC.2 (by have := hC.1; omega)
    obtain ⟨cs, hK, _⟩ := hc i _ (List.getElem?_eq_getElem hi)
    exact txK_okT hK : ∀ t ∈ ts, t.Ok)
  have g0 := heap_alloc_new w (.cells (blkCells h A n c).toArray 49)
  have hb0 : Below w.heap.size w (w.alloc (.cells (blkCells h A n c).toArray 49)) := (Below.refl _ _).alloc (Nat.le_refl _) _
  go_enter Tryd.func32, Tryd.ntmps32
  go_upto_region 1 with fail
  refine wp_gen (q := fun wi => Below w.heap.size w wi ∧ wi.heap[w.heap.size]? = some (.cells (blkCells h A n c).toArray 49)) ⟨hb0, g0⟩ (fun w0 hw => ?_)
  clear hb0 g0
  obtain ⟨hb0, g0⟩ := hw
  have tS : w0.cell? ⟨w.heap.size, 68, none⟩ = some (.slice A n c) := blk_cell g0 (by rw [List.getElem?_toArray]; exact blkCells_at hk A n c)
  have hC0 := RK.C.below hC hb0
  clear hC
  by_cases e0 : n = 0
  · subst e0
    have hts : ts = [] := List.eq_nil_of_length_eq_zero hln.out
    have HF : Hid (chkF h ts = 2) := Lib.hid (by rw [hts]; rfl)
    go_wp2
    go_ret
    exact ⟨by rw [HF.out]; rfl, hb0⟩
  · have e0' : ((n : Int) == 0) = false := beq_eq_false_iff_ne.2 (by omega)
    have hnp : (0 : Int) < (n : Int) := by omega
    obtain ⟨b, o, cs, x, hA, hx, hKx, hcx⟩ := hC0.get 0 (by omega)
    subst hA
    have HF1 : Hid (first0 ts = firstF x) := Lib.hid (by
      cases ts with
      | nil => simp at hx
      | cons y r => obtain rfl : y = x := by simpa using hx
                    rfl)
    obtain ⟨X1, xc1, X2, xc2, rfl, x1, x2, x3, x4, _, _⟩ := txK_form hKx
    unfold maxLen at x2 x4
    rw [Nat.zero_mul, Nat.add_zero] at hcx
    have hrx : w0.rangeAt b o [.int .i32 x.ver, .slice X1 x.ins.length xc1, .slice X2 x.outs.length xc2, .int .u32 x.lock] := hcx
    have hi4 := info_tx4 (.int .i32 x.ver) (.slice X1 x.ins.length xc1) (.slice X2 x.outs.length xc2) (.int .u32 x.lock)
    clear hx hcx
    go_wp2_with (first | ((with_reducible refine wpList_at 21 ?_); refine wpList_load_midG rfl 54 (.tmp 20) rfl b o rfl [.int .i32 x.ver, .slice X1 x.ins.length xc1, .slice X2 x.outs.length xc2, .int .u32 x.lock] _ hrx hU rfl hi4 ?_))
    refine (first_calls w0 _ x [.int .i32 x.ver, .slice X1 x.ins.length xc1, .slice X2 x.outs.length xc2, .int .u32 x.lock] hKx (hN.below hb0)).mono ?_
    rintro e w1 ⟨rfl, hb1⟩
    have hB1 := below_then hb0 hb0.size hb1
    have g1 := heap_below hb1 g0
    have tS1 := cell_below hb1 tS
    have hC1 := RK.C.below hC0 hb1
    clear hb0 g0 hb1 tS hC0 hrx hKx
    cases hff : firstF x with
    | false =>
      have HF : Hid (chkF h ts = 2) := Lib.hid (by unfold chkF; rw [HF1.out, hff]; rfl)
      go_wp2
      go_ret
      exact ⟨by rw [HF.out]; rfl, hB1⟩
    | true =>
      have HF0 : Hid (chkF h ts = if chk1 0 ts ≠ 0 then chk1 0 ts else if (idsF ts).Nodup then (if rootF (idsF ts) = h.root then 0 else 21) else 23) := Lib.hid (by unfold chkF; rw [HF1.out, hff, if_neg (by decide)])
      have HFC : Hid (∀ c, chk1 0 ts = c → c ≠ 0 → chkF h ts = c) := Lib.hid (fun c h1 h2 => by rw [HF0.out, h1, if_pos h2])
      clear hff
      have hm0 : MapV Dig (w1.alloc (.map #[] 0)) w1.heap.size hkv Value.bool ([] : List (List Int × Bool)) := MapV.made w1
      have hbm : Below w1.heap.size w1 (w1.alloc (.map #[] 0)) := (Below.refl _ _).alloc (Nat.le_refl _) _
      have km := run_makeMap (P := Tryd.prog) 114 w1
      go_upto_region 4 with fail
      clear km
      refine wp_gen (q := fun wi => MapV Dig wi w1.heap.size hkv Value.bool ([] : List (List Int × Bool)) ∧ Below w1.heap.size w1 wi) ⟨hm0, hbm⟩ (fun w2 hw => ?_)
      clear hm0 hbm
      obtain ⟨hM2, hb2⟩ := hw
      have hB2 := below_then hB1 hB1.size hb2
      have g2 := heap_below hb2 g1
      have tS2 := cell_below hb2 tS1
      have hC2 := RK.C.below hC1 hb2
      have hgw : w.heap.size < w1.heap.size := heap_lt g1
      have hg3 := hM2.lt
      clear hB1 g1 hb2 tS1 hC1
      go_wp2
      go_loopw [29] (fun v29 wr => ∃ (k : Nat), k ≤ n ∧ v29 = .int .i64 k ∧ Hid (chk1 0 ts = chk1 k (ts.drop k)) ∧ Hid (∀ t ∈ ts.take k, encErr t = 0) ∧ Below w2.heap.size w2 wr) (fun v _ => n - (intOf v).toNat)
      case atStart => exact ⟨0, by omega, rfl, Lib.hid (by rw [List.drop_zero]), Lib.hid (fun t h => by simp at h), Below.refl _ _⟩
      case round =>
        obtain ⟨k, hk', rfl, HC1, HE1, hB⟩ := hrel
        have hbw := below_then hB2 hB2.size hB
        by_cases hlt : k < n
        · have hlt' : (k : Int) < (n : Int) := by omega
          have hkk : (0 : Int) ≤ (k : Int) := by omega
          obtain ⟨b2, o2, cs, y, hA, hy, hKy, hcy⟩ := (RK.C.below hC2 hB).get k hlt
          injection hA with hA
          injection hA with q1 q2
          subst q1 q2
          have HY := Lib.hid hy
          have HST := Lib.hid (chk1_step hy k)
          obtain ⟨Y1, yc1, Y2, yc2, rfl, y1, y2, y3, y4, _, _⟩ := txK_form hKy
          unfold maxLen at y2 y4
          have hry : wr.rangeAt b (o + k * 4) [.int .i32 y.ver, .slice Y1 y.ins.length yc1, .slice Y2 y.outs.length yc2, .int .u32 y.lock] := hcy
          have hj4 := info_tx4 (.int .i32 y.ver) (.slice Y1 y.ins.length yc1) (.slice Y2 y.outs.length yc2) (.int .u32 y.lock)
          obtain ⟨zc, hzc⟩ := coinsV_form y
          have HZC := Lib.hid hzc
          clear hy hcy hzc
          go_upto_region 7 with (first
            | ((with_reducible refine wpList_at 33 ?_); refine wpList_load_mid rfl 54 (.tmp 32) rfl b (o + k * 4) rfl [.int .i32 y.ver, .slice Y1 y.ins.length yc1, .slice Y2 y.outs.length yc2, .int .u32 y.lock] _ hry hU rfl hj4 ?_))
          refine wp_gen (q := fun wi => wi.heap[wr.heap.size]? = some (.cells ([.int .i32 y.ver, .slice Y1 y.ins.length yc1, .slice Y2 y.outs.length yc2, .int .u32 y.lock]).toArray 54) ∧ Below wr.heap.size wr wi) ⟨heap_alloc_new _ _, (Below.refl _ _).alloc (Nat.le_refl _) _⟩ (fun w5 hw => ?_)
          obtain ⟨g5, hb5⟩ := hw
          have hB5 := below_then hB hB.size hb5
          have hbw5 := below_then hbw hbw.size hb5
          have hKy5 := RK.K_below hKy hb5
          clear hry hKy hb5 hbw hB
          go_wp2_with (first | ((with_reducible refine wpList_at 35 ?_); refine wpList_load_row rfl 54 (.tmp 5) rfl wr.heap.size rfl 54 _ _ _ g5 hU rfl hj4 ?_))
          refine (enc_calls w5 _ y [.int .i32 y.ver, .slice Y1 y.ins.length yc1, .slice Y2 y.outs.length yc2, .int .u32 y.lock] hKy5).mono ?_
          rintro e w6 ⟨he1, he0, hb6⟩
          have hB6 := below_then hB5 hB5.size hb6
          have hbw6 := below_then hbw5 hbw5.size hb6
          have g6 := heap_below hb6 g5
          have hKy6 := RK.K_below hKy5 hb6
          have hN6 := hN.below hbw6
          clear g5 hKy5 hB5 hbw5 hb6
          by_cases hE : encErr y = 0
          · obtain ⟨A6, N6, c6, rfl, _⟩ := he0 hE
            have HE2 : Hid (∀ t ∈ ts.take (k + 1), encErr t = 0) := Lib.hid (all_take_succ HE1.out HY.out hE)
            have HS1 : Hid (chk1 0 ts = if 0 < k ∧ firstF y = true then 2 else if okC y = false then 24 else chk1 (k + 1) (ts.drop (k + 1))) := Lib.hid (by rw [HC1.out, HST.out, if_neg (by rw [hE]; decide)])
            clear he0 he1 hE
            by_cases hk0 : 0 < k
            · have hk0' : decide ((0 : Int) < (k : Int)) = true := decide_eq_true (by omega)
              go_wp2_with (first | ((with_reducible refine wpList_at 45 ?_); refine wpList_load_rowG rfl 54 (.tmp 5) rfl wr.heap.size rfl 54 _ _ _ g6 hU rfl hj4 ?_))
              refine (first_calls w6 _ y [.int .i32 y.ver, .slice Y1 y.ins.length yc1, .slice Y2 y.outs.length yc2, .int .u32 y.lock] hKy6 hN6).mono ?_
              rintro e w7 ⟨rfl, hb7⟩
              have hB7 := below_then hB6 hB6.size hb7
              have hbw7 := below_then hbw6 hbw6.size hb7
              have g7 := heap_below hb7 g6
              have hKy7 := RK.K_below hKy6 hb7
              clear g6 hKy6 hB6 hbw6 hb7 hN6
              cases hfy : firstF y with
              | true =>
                have HF : Hid (chkF h ts = 2) := Lib.hid (HFC.out 2 (by rw [HS1.out, if_pos ⟨hk0, hfy⟩]) (by decide))
                go_wp2
                go_ret
                exact ⟨by rw [HF.out]; rfl, hbw7⟩
              | false =>
                have HS2 : Hid (chk1 0 ts = if okC y = false then 24 else chk1 (k + 1) (ts.drop (k + 1))) := Lib.hid (by rw [HS1.out, if_neg (by rw [hfy]; simp)])
                clear hfy HS1
                go_wp2_with (first | ((with_reducible refine wpList_at 50 ?_); refine wpList_load_row rfl 54 (.tmp 5) rfl wr.heap.size rfl 54 _ _ _ g7 hU rfl hj4 ?_))
                refine (coins_calls w7 _ y [.int .i32 y.ver, .slice Y1 y.ins.length yc1, .slice Y2 y.outs.length yc2, .int .u32 y.lock] hKy7).mono ?_
                rintro e w8 ⟨rfl, hb8⟩
                have hB8 := below_then hB7 hB7.size hb8
                have hbw8 := below_then hbw7 hbw7.size hb8
                rw [HZC.out]
                clear hKy7 g7 hB7 hbw7 hb8
                cases hcy : okC y with
                | false =>
                  have HF : Hid (chkF h ts = 24) := Lib.hid (HFC.out 24 (by rw [HS2.out, if_pos hcy]) (by decide))
                  go_wp2
                  go_ret
                  exact ⟨by rw [HF.out]; rfl, hbw8⟩
                | true =>
                  have HS3 : Hid (chk1 0 ts = chk1 (k + 1) (ts.drop (k + 1))) := Lib.hid (by rw [HS2.out, if_neg (by rw [hcy]; decide)])
                  go_wp2
                  go_roundw
                  case rel => exact ⟨k + 1, by omega, by go_num, HS3, HE2, hB8⟩
                  case measure => simp [intOf]; omega
            · have hk0' : decide ((0 : Int) < (k : Int)) = false := decide_eq_false (by omega)
              have HS2 : Hid (chk1 0 ts = if okC y = false then 24 else chk1 (k + 1) (ts.drop (k + 1))) := Lib.hid (by rw [HS1.out, if_neg (fun h => hk0 h.1)])
              clear HS1
              go_wp2_with (first | ((with_reducible refine wpList_at 50 ?_); refine wpList_load_row rfl 54 (.tmp 5) rfl wr.heap.size rfl 54 _ _ _ g6 hU rfl hj4 ?_))
              refine (coins_calls w6 _ y [.int .i32 y.ver, .slice Y1 y.ins.length yc1, .slice Y2 y.outs.length yc2, .int .u32 y.lock] hKy6).mono ?_
              rintro e w8 ⟨rfl, hb8⟩
              have hB8 := below_then hB6 hB6.size hb8
              have hbw8 := below_then hbw6 hbw6.size hb8
              rw [HZC.out]
              clear hKy6 g6 hB6 hbw6 hb8
              cases hcy : okC y with
              | false =>
                have HF : Hid (chkF h ts = 24) := Lib.hid (HFC.out 24 (by rw [HS2.out, if_pos hcy]) (by decide))
                go_wp2
                go_ret
                exact ⟨by rw [HF.out]; rfl, hbw8⟩
              | true =>
                have HS3 : Hid (chk1 0 ts = chk1 (k + 1) (ts.drop (k + 1))) := Lib.hid (by rw [HS2.out, if_neg (by rw [hcy]; decide)])
                go_wp2
                go_roundw
                case rel => exact ⟨k + 1, by omega, by go_num, HS3, HE2, hB8⟩
                case measure => simp [intOf]; omega
          · obtain rfl := he1 hE
            have hEq : (encErr y == 0) = false := beq_eq_false_iff_ne.2 hE
            have HF : Hid (chkF h ts = 2) := Lib.hid (HFC.out 2 (by rw [HC1.out, HST.out, if_pos hE]) (by decide))
            clear he0 he1
            go_wp2
            go_ret
            exact ⟨by rw [HF.out]; rfl, hbw6⟩
        · have hlt' : ¬ (k : Int) < (n : Int) := by omega
          have HZ : Hid (chkF h ts = if (idsF ts).Nodup then (if rootF (idsF ts) = h.root then 0 else 21) else 23) := Lib.hid (by
            have h1 : chk1 0 ts = 0 := by rw [HC1.out, List.drop_eq_nil_of_le (by rw [hln.out]; omega)]; rfl
            rw [HF0.out, h1, if_neg (by decide)])
          have hAll := all_take_full HE1.out (by rw [hln.out]; omega)
          have hlb : ∀ t ∈ ts, (layF t false).length ≤ 9000000000 ∧ Bytes (layF t false) := fun t ht =>
            ⟨layF_le t (fun x hx => ((hOk.out t ht).ins x hx).idl) (encErr_zero (hAll t ht)).1 false, layF_bytes (hOk.out t ht) false⟩
          have HLB := Lib.hid hlb
          have gr := heap_below hB g2
          have hMr := hM2.below hB
          have hCr := RK.C.below hC2 hB
          have hTr := hT.below hbw
          have hszr := hB.size
          clear hAll hlb hM2 g2 hC2 tS2 HC1 HE1 HF0 HF1
          go_wp2_with (first | ((with_reducible refine wpList_at 57 ?_); refine wpList_load_row rfl 49 (.tmp 1) rfl w.heap.size rfl 49 _ _ _ gr hUB rfl hiB ?_))
          refine (ids_calls wr hTr _ h hk (some ⟨b, o, none⟩) n c ts hnc hcm hn hCr HLB.out).mono ?_
          rintro e w5 ⟨A8, c8, rfl, hO8, hb5⟩
          have g5 := heap_below hb5 gr
          have hM5 := hMr.below hb5
          have hbw5 := below_then hbw hbw.size hb5
          have hle8 := hO8.le_.1
          have hH5 : hashK.C (fun q => wr.heap.size ≤ q) w5 A8 n (idsF ts) := hO8.C_ (fun _ h => h.elim) (fun q e => (hO8.lt q e).1)
          have hs5 := hb5.size
          have HIL : Hid ((idsF ts).length = n) := Lib.hid (by unfold idsF; rw [List.length_map]; exact hln.out)
          have hm0 : MapV Dig w5 w1.heap.size hkv Value.bool (((idsF ts).take 0).map (fun x => (x, true))) := by simpa using hM5
          obtain ⟨lo, hlo⟩ : ∃ lo, wr.heap.size = lo := ⟨_, rfl⟩
          rw [hlo] at hH5 hs5 hszr
          clear gr hMr hCr hTr hb5 hO8 hbw hB hM5 hlo
          go_wp2
          go_loopw [61] (fun v61 wr' => ∃ (j : Nat), j ≤ n ∧ v61 = .int .i64 j ∧ MapV Dig wr' w1.heap.size hkv Value.bool (((idsF ts).take j).map (fun x => (x, true))) ∧ Hid (((idsF ts).take j).Nodup) ∧ hashK.C (fun q => lo ≤ q) wr' A8 n (idsF ts) ∧ wr'.heap[w.heap.size]? = some (.cells (blkCells h (some ⟨b, o, none⟩) n c).toArray 49) ∧ Below w.heap.size w wr') (fun v _ => n - (intOf v).toNat)
          case atStart => exact ⟨0, by omega, rfl, hm0, Lib.hid (by simp), hH5, g5, hbw5⟩
          case round =>
            clear hm0 hH5 g5 hbw5 hs5
            obtain ⟨j, hj, rfl, hM, HND, hH, gq, hbq⟩ := hrel
            by_cases hjl : j < n
            · have hjl' : (j : Int) < (n : Int) := by omega
              have hjj : (0 : Int) ≤ (j : Int) := by omega
              obtain ⟨b8, o8, hA8, _, hr8⟩ := HC.addr hH (by omega)
              subst hA8
              have rx := hr8 j hjl
              have hx8 := dg_get (idsF ts) j (by rw [HIL.out]; exact hjl)
              have hdig := HC.digs hH _ (List.mem_of_getElem? hx8)
              obtain ⟨d, hd⟩ : ∃ d, dg (idsF ts) j = d := ⟨_, rfl⟩
              rw [hd] at rx hx8 hdig
              have HX8 := Lib.hid hx8
              have hiD := info_hh d hdig.1
              clear hd hx8 hr8
              go_upto_region 18 with (first
                | ((with_reducible refine wpList_at 64 ?_); refine wpList_load_mid rfl 24 (.tmp 63) rfl b8 (o8 + j * 32) rfl (nums .u8 d) _ rx hUD rfl hiD ?_)
                | ((with_reducible refine wpList_atS 12 ?_); refine wpList_store_any rfl 24 (.tmp 12) (.tmp 64) rfl wr.heap.size (nums .u8 d).toArray rfl rfl 24 (nums .u8 zeros32).toArray (heap_alloc_new _ _) (info_h d hdig.1) (size_h d hdig.1) (nums_all _ _) ?_; intro w7 h7 ht7))
              have hb7 : Below wr.heap.size wr w7 := ht7.below ((Below.refl _ _).alloc (Nat.le_refl _) _) (Nat.le_refl _)
              have hM7 := hM.below hb7
              have hH7 := RK.C.below hH hb7
              have g7 := heap_below hb7 gq
              have hbw7 := below_then hbq hbq.size hb7
              have hlk := MapV.look (P := Tryd.prog) false keyHash hUM (zero_bool w7) hM7 hdig
              rw [lookup_mark] at hlk
              have hsz7 := hbw7.size
              clear hM hH gq hbq hb7 rx ht7
              by_cases hmem : d ∈ (idsF ts).take j
              · rw [if_pos hmem] at hlk
                have HF : Hid (chkF h ts = 23) := Lib.hid (by
                  rw [HZ.out, if_neg]
                  intro hnd
                  exact (nodup_take HX8.out HND.out).1 (hnd.sublist (List.take_sublist _ _)) hmem)
                go_wp2_with (first
                  | ((with_reducible refine wpList_at 66 ?_); refine wpList_load_row rfl 24 (.tmp 12) rfl wr.heap.size rfl 24 _ _ _ h7 hUD rfl (info_h d hdig.1) ?_)
                  | ((with_reducible refine wpList_at 67 ?_); refine wpList_lookV rfl (.tmp 65) (.tmp 66) 114 false rfl (.map (some w1.heap.size)) (hkv d) (.bool true) rfl rfl hlk ?_))
                go_ret
                exact ⟨by rw [HF.out]; rfl, hbw7⟩
              · rw [if_neg hmem] at hlk
                have HND2 : Hid (((idsF ts).take (j + 1)).Nodup) := Lib.hid ((nodup_take HX8.out HND.out).2 hmem)
                have hpl : (((idsF ts).take j).map (fun x => (x, true))).length < maxLen := by
                  rw [List.length_map, List.length_take]
                  unfold maxLen
                  omega
                obtain ⟨w8, hput, hM8, ht8⟩ := MapV.put (P := Tryd.prog) keyHash hUM hM7 hpl hdig true
                have hpn : putV (((idsF ts).take j).map (fun x => (x, true))) d true = ((idsF ts).take (j + 1)).map (fun x => (x, true)) := by
                  rw [putV_new _ _ _ (fun p hp e => hmem (by
                    obtain ⟨y, hy, rfl⟩ := List.mem_map.1 hp
                    rw [← e]
                    exact hy)), List.take_add_one, HX8.out]
                  simp
                rw [hpn] at hM8
                have hH8 : hashK.C (fun q => lo ≤ q) w8 (some ⟨b8, o8, none⟩) n (idsF ts) := hH7.move (fun q hq _ => ht8.block q (by omega))
                have g8 := ht8.keep g7 (by omega)
                have hbw8 := ht8.below hbw7 (by omega)
                clear hpn hpl hM7 hH7 g7 hbw7
                go_wp2_with (first
                  | ((with_reducible refine wpList_at 66 ?_); refine wpList_load_row rfl 24 (.tmp 12) rfl wr.heap.size rfl 24 _ _ _ h7 hUD rfl (info_h d hdig.1) ?_)
                  | ((with_reducible refine wpList_at 67 ?_); refine wpList_lookV rfl (.tmp 65) (.tmp 66) 114 false rfl (.map (some w1.heap.size)) (hkv d) (.bool false) rfl rfl hlk ?_)
                  | ((with_reducible refine wpList_at 69 ?_); refine wpList_load_row rfl 24 (.tmp 12) rfl wr.heap.size rfl 24 _ _ _ h7 hUD rfl (info_h d hdig.1) ?_)
                  | (refine wpList_mapUpd rfl (.tmp 68) (.tmp 69) (.const (.bool true)) 114 rfl (.map (some w1.heap.size)) (hkv d) (.bool true) rfl rfl rfl hput ?_))
                go_roundw
                case rel => exact ⟨j + 1, by omega, by go_num, hM8, HND2, hH8, g8, hbw8⟩
                case measure => simp [intOf]; omega
            · have hjl' : ¬ (j : Int) < (n : Int) := by omega
              have hnd : (idsF ts).Nodup := by
                have := HND.out
                rwa [List.take_of_length_le (by rw [HIL.out]; omega)] at this
              have HZ2 : Hid (chkF h ts = if rootF (idsF ts) = h.root then 0 else 21) := Lib.hid (by rw [HZ.out, if_pos hnd])
              have hrl : (rootF (idsF ts)).length = 32 := (rootF_dig _ _ (Nat.le_refl _) (idsF_digs ts)).1
              obtain ⟨rt, hrt⟩ : ∃ rt, rootF (idsF ts) = rt := ⟨_, rfl⟩
              have HRT := Lib.hid hrt
              rw [hrt] at HZ2 hrl
              have hTr := hT.below hbq
              have hHC : HC wr A8 n (idsF ts) := hH.mono (fun _ _ => trivial)
              have rR : wr.drew.rangeAt w.heap.size 33 (nums .u8 h.root) := by
                have := range_sub (range_headB gq) 33 32
                rwa [Hd.drop33 hk, Nat.zero_add] at this
              clear hM hH gq hnd hrt HND
              go_upto_region 22 with fail
              by_cases hre : rt = h.root
              · have HF : Hid (chkF h ts = 0) := Lib.hid (by rw [HZ2.out, if_pos hre])
                have hNE : ∀ W, (Op.equalIn 10000 24 (.agg (nums .u8 rt).toArray) (.agg (nums .u8 h.root).toArray)).run Tryd.prog W = .ok true W := fun W => by
                  rw [run_equalIn_nums (P := Tryd.prog) W 9998 24 5 32 .u8 .u8 Tryd.underlying24 Tryd.underlying5 info_u8 rt h.root hrl hk.root.1, beq_iff_eq.2 hre]
                clear hre
                refine wp_region_noPanic ?_
                refine wp_region_held_drew (S := fun w' => w'.rangeAt w.heap.size 33 (nums .u8 h.root) ∧ Below wr.heap.size wr w') (by kernel_rfl) ⟨rR, Below.drew (Below.refl _ _)⟩ (fun hHeld => ?_)
                -- 0: block.go:127 slot 71 := Op.move t10
                refine wpAnyH_take (i := 0) (oi := ⟨some 71, _, _, _, _, _⟩) (v := ?_) rfl (by kernel_rfl) (by kernel_rfl) (by kernel_rfl) (fun _ _ _ h => h) (Or.inl ⟨by rfl, ?_⟩) (by assumption) ?_
                rotate_left 1
                · intro w hSw; (try dsimp only at hSw); go_simp; try with_reducible rfl
                simp only [Act.put, List.setIfInBounds_toArray, List.set_cons_zero, List.set_cons_succ]
                -- 2: block.go:127 slot 73 := Op.fieldAddr 64 t1 0
                refine wpAnyH_take (i := 2) (oi := ⟨some 73, _, _, _, _, _⟩) (v := ?_) rfl (by kernel_rfl) (by kernel_rfl) (by kernel_rfl) (fun _ _ _ h => h) (Or.inl ⟨by rfl, ?_⟩) (by assumption) ?_
                rotate_left 1
                · intro w hSw; (try dsimp only at hSw); go_simp; try with_reducible rfl
                simp only [Act.put, List.setIfInBounds_toArray, List.set_cons_zero, List.set_cons_succ]
                -- 3: block.go:127 slot 74 := Op.fieldAddr 53 t73 2
                refine wpAnyH_take (i := 3) (oi := ⟨some 74, _, _, _, _, _⟩) (v := ?_) rfl (by kernel_rfl) (by kernel_rfl) (by kernel_rfl) (fun _ _ _ h => h) (Or.inl ⟨by rfl, ?_⟩) (by assumption) ?_
                rotate_left 1
                · intro w hSw; (try dsimp only at hSw); go_simp; try with_reducible rfl
                simp only [Act.put, List.setIfInBounds_toArray, List.set_cons_zero, List.set_cons_succ]
                -- 4: block.go:127 slot 75 := Op.load 25 t74
                refine wpAnyH_take (i := 4) (oi := ⟨some 75, _, _, _, _, _⟩) rfl (by kernel_rfl) (by kernel_rfl) (by kernel_rfl) (fun _ _ _ h => h) (yieldsIf_load_mid (by rfl) _ _ rfl _ _ rfl (nums .u8 h.root) _ (fun _ h => h.1) hUD rfl hiR) (by assumption) ?_
                simp only [Act.put, List.setIfInBounds_toArray, List.set_cons_zero, List.set_cons_succ]
                -- 1: block.go:127 slot 72 := Op.call { value (Operand.func 28), args := #[t71], argTypes := #[38] }
                refine wpAnyH_ready (rs := [1]) (by kernel_rfl) (by simp) ?_
                refine AllReadyH.cons (o := ⟨some 72, _, _, _, _, _⟩) rfl (fun K hK => ?_) AllReadyH.nil
                go_simp
                refine (blkroot_calls _ (hTr.below hHeld.2) A8 n c8 (idsF ts) hle8 hn (RK.C.below hHC hHeld.2)).mono ?_
                rintro e w9 ⟨rfl, hbz⟩
                rw [HRT.out]
                refine hK.out _ _ ⟨range_below hbz hHeld.1, below_then hHeld.2 hHeld.2.size hbz⟩ (fun hHeld' => ?_)
                clear hHeld
                have hHeld := hHeld'
                clear hHeld'
                clear hK K
                try (simp only [Act.put, List.setIfInBounds_toArray, List.set_cons_zero, List.set_cons_succ])
                -- 5: block.go:127 slot 76 := Op.binOp BinOp.neq 25 t72 t75 25
                refine wpAnyH_take (i := 5) (oi := ⟨some 76, _, _, _, _, _⟩) (v := ?_) rfl (by kernel_rfl) (by kernel_rfl) (by kernel_rfl) (fun _ _ _ h => h) (Or.inl ⟨by rfl, ?_⟩) (by assumption) ?_
                rotate_left 1
                · intro w hSw; (try dsimp only at hSw); go_simp; try with_reducible rfl
                simp only [Act.put, List.setIfInBounds_toArray, List.set_cons_zero, List.set_cons_succ]
                refine wpAnyH_done (by kernel_rfl) ?_ _
                refine NoPanic.normal ?_
                have hbe := below_then hbq hbq.size hHeld.2
                clear hHeld rR hHC hTr hNE
                go_wp2
                go_ret
                exact ⟨by rw [HF.out]; rfl, hbe⟩
              · have HF : Hid (chkF h ts = 21) := Lib.hid (by rw [HZ2.out, if_neg hre])
                have hNE : ∀ W, (Op.equalIn 10000 24 (.agg (nums .u8 rt).toArray) (.agg (nums .u8 h.root).toArray)).run Tryd.prog W = .ok false W := fun W => by
                  rw [run_equalIn_nums (P := Tryd.prog) W 9998 24 5 32 .u8 .u8 Tryd.underlying24 Tryd.underlying5 info_u8 rt h.root hrl hk.root.1, beq_eq_false_iff_ne.2 hre]
                clear hre
                refine wp_region_noPanic ?_
                refine wp_region_held_drew (S := fun w' => w'.rangeAt w.heap.size 33 (nums .u8 h.root) ∧ Below wr.heap.size wr w') (by kernel_rfl) ⟨rR, Below.drew (Below.refl _ _)⟩ (fun hHeld => ?_)
                -- 0: block.go:127 slot 71 := Op.move t10
                refine wpAnyH_take (i := 0) (oi := ⟨some 71, _, _, _, _, _⟩) (v := ?_) rfl (by kernel_rfl) (by kernel_rfl) (by kernel_rfl) (fun _ _ _ h => h) (Or.inl ⟨by rfl, ?_⟩) (by assumption) ?_
                rotate_left 1
                · intro w hSw; (try dsimp only at hSw); go_simp; try with_reducible rfl
                simp only [Act.put, List.setIfInBounds_toArray, List.set_cons_zero, List.set_cons_succ]
                -- 2: block.go:127 slot 73 := Op.fieldAddr 64 t1 0
                refine wpAnyH_take (i := 2) (oi := ⟨some 73, _, _, _, _, _⟩) (v := ?_) rfl (by kernel_rfl) (by kernel_rfl) (by kernel_rfl) (fun _ _ _ h => h) (Or.inl ⟨by rfl, ?_⟩) (by assumption) ?_
                rotate_left 1
                · intro w hSw; (try dsimp only at hSw); go_simp; try with_reducible rfl
                simp only [Act.put, List.setIfInBounds_toArray, List.set_cons_zero, List.set_cons_succ]
                -- 3: block.go:127 slot 74 := Op.fieldAddr 53 t73 2
                refine wpAnyH_take (i := 3) (oi := ⟨some 74, _, _, _, _, _⟩) (v := ?_) rfl (by kernel_rfl) (by kernel_rfl) (by kernel_rfl) (fun _ _ _ h => h) (Or.inl ⟨by rfl, ?_⟩) (by assumption) ?_
                rotate_left 1
                · intro w hSw; (try dsimp only at hSw); go_simp; try with_reducible rfl
                simp only [Act.put, List.setIfInBounds_toArray, List.set_cons_zero, List.set_cons_succ]
                -- 4: block.go:127 slot 75 := Op.load 25 t74
                refine wpAnyH_take (i := 4) (oi := ⟨some 75, _, _, _, _, _⟩) rfl (by kernel_rfl) (by kernel_rfl) (by kernel_rfl) (fun _ _ _ h => h) (yieldsIf_load_mid (by rfl) _ _ rfl _ _ rfl (nums .u8 h.root) _ (fun _ h => h.1) hUD rfl hiR) (by assumption) ?_
                simp only [Act.put, List.setIfInBounds_toArray, List.set_cons_zero, List.set_cons_succ]
                -- 1: block.go:127 slot 72 := Op.call { value (Operand.func 28), args := #[t71], argTypes := #[38] }
                refine wpAnyH_ready (rs := [1]) (by kernel_rfl) (by simp) ?_
                refine AllReadyH.cons (o := ⟨some 72, _, _, _, _, _⟩) rfl (fun K hK => ?_) AllReadyH.nil
                go_simp
                refine (blkroot_calls _ (hTr.below hHeld.2) A8 n c8 (idsF ts) hle8 hn (RK.C.below hHC hHeld.2)).mono ?_
                rintro e w9 ⟨rfl, hbz⟩
                rw [HRT.out]
                refine hK.out _ _ ⟨range_below hbz hHeld.1, below_then hHeld.2 hHeld.2.size hbz⟩ (fun hHeld' => ?_)
                clear hHeld
                have hHeld := hHeld'
                clear hHeld'
                clear hK K
                try (simp only [Act.put, List.setIfInBounds_toArray, List.set_cons_zero, List.set_cons_succ])
                -- 5: block.go:127 slot 76 := Op.binOp BinOp.neq 25 t72 t75 25
                refine wpAnyH_take (i := 5) (oi := ⟨some 76, _, _, _, _, _⟩) (v := ?_) rfl (by kernel_rfl) (by kernel_rfl) (by kernel_rfl) (fun _ _ _ h => h) (Or.inl ⟨by rfl, ?_⟩) (by assumption) ?_
                rotate_left 1
                · intro w hSw; (try dsimp only at hSw); go_simp; try with_reducible rfl
                simp only [Act.put, List.setIfInBounds_toArray, List.set_cons_zero, List.set_cons_succ]
                refine wpAnyH_done (by kernel_rfl) ?_ _
                refine NoPanic.normal ?_
                have hbe := below_then hbq hbq.size hHeld.2
                clear hHeld rR hHC hTr hNE
                go_wp2
                go_ret
                exact ⟨by rw [HF.out]; rfl, hbe⟩
end Go.Proofs.YtclkgflficlmiaaDoor
