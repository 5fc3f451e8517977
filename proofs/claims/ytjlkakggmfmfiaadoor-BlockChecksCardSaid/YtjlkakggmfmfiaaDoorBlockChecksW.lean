/- BlockChecks: for every block the law's call returns true and changes nothing: what is wrong with it by itself, in order. -/
import Derived.Test.YtjlkakggmfmfiaaDoorBlkChk
import Derived.Test.YtjlkakggmfmfiaaDoorBlkSmall
import Derived.Test.YtjlkakggmfmfiaaDoorHead08
set_option maxRecDepth 100000
set_option linter.unusedVariables false
namespace Go.Proofs.YtjlkakggmfmfiaaDoor
open Go Go.RowKit
theorem small_lay {t : TTx} (hok : t.Ok) (h : SmallT t) : (layF t false).length ≤ 21712 := by
  have h1 := flat_len layIn 343 t.ins (fun x hx => small_in (hok.ins x hx).idl (h.ins x hx))
  have h3 := flat_len layOut 311 t.outs (fun x hx => by
    have := text_small (h.outs x hx)
    unfold layOut
    simp only [List.length_append, leF_length]
    omega)
  have h4 := h.il
  have h5 := h.ol
  have c1 : (compF t.ins.length).length = 1 := by rw [compF_length, if_pos (by omega)]
  have c2 : (compF t.outs.length).length = 1 := by rw [compF_length, if_pos (by omega)]
  unfold layF
  simp only [List.length_append, leF_length, c1, c2, Bool.false_eq_true, if_false, List.length_nil]
  omega
theorem small_check {t : TTx} (hok : t.Ok) (h : SmallT t) : encErr t = checkF t := by
  have hl : ¬ 65536 < (layF t t.hasWit).length := by have := small_len hok h; unfold encF at this; omega
  unfold encErr
  rw [if_neg hl]
  by_cases hc : checkF t = 0
  · rw [if_neg (by rw [hc]; decide), hc]
  · rw [if_pos hc]
/-- What the transactions alone say. -/
def E1 (ts : List TTx) : Int := if first0 ts = false then 2 else chk1 0 ts
theorem chkF_E1 (h : Hd) (ts : List TTx) : chkF h ts = if E1 ts ≠ 0 then E1 ts else if (idsF ts).Nodup then (if rootF (idsF ts) = h.root then 0 else 21) else 23 := by
  unfold chkF E1
  cases first0 ts with
  | false => rfl
  | true => rfl
def E2 (ts : List TTx) (i : Nat) : Int := if E1 ts ≠ 0 then E1 ts else if ((idsF ts).take i).Nodup then 0 else 23
def E3 (ts : List TTx) (i k : Nat) (d : List Int) : Int := if E1 ts ≠ 0 then E1 ts else if ((idsF ts).take i).Nodup ∧ d ∉ (idsF ts).take k then 0 else 23
theorem E3_zero (ts : List TTx) (i : Nat) (d : List Int) : E3 ts i 0 d = E2 ts i := by
  unfold E3 E2
  simp
theorem E3_full {ts : List TTx} {i : Nat} {d : List Int} (hd : (idsF ts)[i]? = some d) : E3 ts i i d = E2 ts (i + 1) := by
  unfold E3 E2
  by_cases h : E1 ts = 0
  · simp only [ne_eq, h, not_true_eq_false, if_false]
    by_cases hn : ((idsF ts).take i).Nodup
    · have := nodup_take hd hn
      by_cases hm : d ∈ (idsF ts).take i
      · rw [if_neg (fun h => h.2 hm), if_neg (fun h => this.1 h hm)]
      · rw [if_pos ⟨hn, hm⟩, if_pos (this.2 hm)]
    · rw [if_neg (fun h => hn h.1), if_neg (fun h => hn (h.sublist (List.take_sublist_take_left (Nat.le_succ i))))]
  · simp only [ne_eq, h, not_false_eq_true, if_true]
theorem E3_step {ts : List TTx} {i k : Nat} {d dk : List Int} (hk : (idsF ts)[k]? = some dk) : E3 ts i (k + 1) d = if E3 ts i k d = 0 ∧ d = dk then 23 else E3 ts i k d := by
  unfold E3
  by_cases h : E1 ts = 0
  · simp only [ne_eq, h, not_true_eq_false, if_false]
    have hm : d ∈ (idsF ts).take (k + 1) ↔ d ∈ (idsF ts).take k ∨ d = dk := by rw [List.take_add_one, hk]; simp
    have hL : (((idsF ts).take i).Nodup ∧ d ∉ (idsF ts).take (k + 1)) ↔ ((((idsF ts).take i).Nodup ∧ d ∉ (idsF ts).take k) ∧ d ≠ dk) := by rw [hm, not_or]; exact and_assoc.symm
    by_cases h1 : ((idsF ts).take i).Nodup ∧ d ∉ (idsF ts).take k
    · by_cases he : d = dk
      · rw [if_neg (fun h => (hL.1 h).2 he), if_pos h1, if_pos ⟨rfl, he⟩]
      · rw [if_pos (hL.2 ⟨h1, he⟩), if_pos h1, if_neg (fun h => he h.2)]
    · rw [if_neg (fun h => h1 (hL.1 h).1), if_neg h1, if_neg (fun h => by cases h.1)]
  · simp only [ne_eq, h, not_false_eq_true, if_true, false_and, if_false]
theorem chkF_E2 (h : Hd) (ts : List TTx) (n : Nat) (hn : (idsF ts).length = n) : chkF h ts = if E2 ts n = 0 ∧ rootF (idsF ts) ≠ h.root then 21 else E2 ts n := by
  rw [chkF_E1]
  unfold E2
  rw [List.take_of_length_le (by omega)]
  by_cases h1 : E1 ts = 0
  · simp only [h1, ne_eq, not_true_eq_false, if_false]
    by_cases h2 : (idsF ts).Nodup
    · rw [if_pos h2, if_pos h2]
      by_cases h3 : rootF (idsF ts) = h.root
      · rw [if_pos h3, if_neg (fun h => h.2 h3)]
      · rw [if_neg h3, if_pos ⟨rfl, h3⟩]
    · rw [if_neg h2, if_neg h2, if_neg (fun h => by cases h.1)]
  · simp only [ne_eq, h1, not_false_eq_true, if_true, false_and, if_false]
theorem wpQuiet_at {P : Program} {ops : Array Oper} {S : World → Prop} {Q : Act → Prop} {rest : List Oper} {a : Act} (d : Nat) {op : Op} {ty : TypeId} {pos : String} {after : Array Edge} {g : Option (Nat × Bool)} (h : wpQuiet P ops S Q (⟨some d, op, ty, pos, after, g⟩ :: rest) a) : wpQuiet P ops S Q (⟨some d, op, ty, pos, after, g⟩ :: rest) a := h
def QW (ts : List TTx) (w0v : Int) : Prop := (w0v = 0 ∧ first0 ts = true) ∨ (w0v = 2 ∧ first0 ts = false)
def QA (ts : List TTx) (k : Nat) (wv : Int) : Prop := (wv = 0 → first0 ts = true ∧ chk1 0 ts = chk1 k (ts.drop k)) ∧ (wv ≠ 0 → wv = E1 ts)
set_option maxHeartbeats 16000000 in
theorem blockChecks_core (w : World) (hT : Tabs w) (hN : Now w) (z : TBlk) (cs : List Value) (hK : blkK.K (· < w.heap.size) w z cs) :
    Calls Tryd.prog 10 #[.agg cs.toArray] w fun e w' => e = .returned (.bool true) ∧ Below w.heap.size w w' := by
  have hK' := hK
  obtain ⟨A, n, c, rfl, hok, hnc, hcm, hC⟩ := hK
  obtain ⟨h, ts⟩ := z
  simp only at hok hC hK' ⊢
  have hUB := Tryd.underlying64
  have hU := Tryd.underlying69
  have hUD := Tryd.underlying25
  have hiB := info_blkA hok A n c
  have hiR := info_hh h.root hok.root.1
  have hcm' := hcm
  unfold maxLen at hcm'
  have hnI : (n : Int) ≤ 9223372036854775807 := by omega
  have HL := Lib.hid hC.len
  have hOk := Lib.hid (fun t ht => by
    obtain ⟨i, hi, rfl⟩ := List.mem_iff_getElem.1 ht
    obtain ⟨b, o, hA, _, _, hc⟩ := hC.2 (by have := hC.1; omega)
    obtain ⟨cs, hK, _⟩ := hc i _ (List.getElem?_eq_getElem hi)
    exact txK_okT hK : ∀ t ∈ ts, t.Ok)
  have g0 := heap_alloc_new w (.cells (blkCells h A n c).toArray 64)
  have hb0 : Below w.heap.size w (w.alloc (.cells (blkCells h A n c).toArray 64)) := (Below.refl _ _).alloc (Nat.le_refl _) _
  go_enter Tryd.func10, Tryd.ntmps10
  go_upto_region 1 with fail
  refine wp_gen (q := fun wi => Below w.heap.size w wi ∧ wi.heap[w.heap.size]? = some (.cells (blkCells h A n c).toArray 64)) ⟨hb0, g0⟩ (fun w0 hw => ?_)
  clear hb0 g0
  obtain ⟨hb0, g0⟩ := hw
  go_wp2_with fail
  refine (head08_calls w0 (hT.below hb0)).mono ?_
  rintro e w1 ⟨rfl, hb1⟩
  have hB1 := below_then hb0 hb0.size hb1
  have g1 := heap_below hb1 g0
  clear hb0 g0 hb1
  go_wp2_with (first | ((with_reducible refine wpList_at 13 ?_); refine wpList_load_row rfl 64 (.tmp 1) rfl w.heap.size rfl 64 _ _ _ g1 hUB rfl hiB ?_))
  refine (big08_calls w1 _ ⟨h, ts⟩ (blkCells h A n c) (RK.K_below hK' hB1)).mono ?_
  rintro e w2 ⟨bb, rfl, hsm, hb2⟩
  have g2 := heap_below hb2 g1
  have hB2 := below_then hB1 hB1.size hb2
  clear g1 hB1 hb2
  cases bb with
  | true =>
    clear hsm
    go_wp2
    go_ret
    exact ⟨rfl, hB2⟩
  | false =>
    have HSM : Hid (SmallB ts) := Lib.hid (hsm rfl)
    have hn12 : n ≤ 12 := by have := HSM.out.len; have := HL.out; omega
    have HLB : Hid (∀ t ∈ ts, (layF t false).length ≤ 9000000000 ∧ Bytes (layF t false)) := Lib.hid (fun t ht => ⟨by have := small_lay (hOk.out t ht) (HSM.out.all t ht); omega, layF_bytes (hOk.out t ht) false⟩)
    have tS2 : w2.cell? ⟨w.heap.size, 68, none⟩ = some (.slice A n c) := blk_cell g2 (by rw [List.getElem?_toArray]; exact blkCells_at hok A n c)
    have hC2 := RK.C.below hC hB2
    clear hsm hC
    go_upto_if 18 with fail
    go_cut [3] from 18 to 24 (fun v3 wd => ∃ w0v, v3 = .int .i64 w0v ∧ Hid (QW ts w0v) ∧ Below w2.heap.size w2 wd)
    case first =>
      by_cases e0 : n = 0
      · subst e0
        have hts : first0 ts = false := by rw [List.eq_nil_of_length_eq_zero HL.out]; rfl
        have HW : Hid (QW ts 2) := Lib.hid (Or.inr ⟨rfl, hts⟩)
        clear hts
        go_wp2
        go_meet
        case rel => exact ⟨2, rfl, HW, Below.refl _ _⟩
      · have e0' : ((n : Int) == 0) = false := beq_eq_false_iff_ne.2 (by omega)
        have hnp : (0 : Int) < (n : Int) := by omega
        obtain ⟨b, o, cs, y, hA, hy, hKy, hcy⟩ := hC2.get 0 (by omega)
        subst hA
        have HF1 : Hid (first0 ts = firstF y) := Lib.hid (by
          cases ts with
          | nil => simp at hy
          | cons z r => obtain rfl : z = y := by simpa using hy
                        rfl)
        obtain ⟨Y1, yc1, Y2, yc2, rfl, y1, y2, y3, y4, _, _⟩ := txK_form hKy
        unfold maxLen at y2 y4
        rw [Nat.zero_mul, Nat.add_zero] at hcy
        have hry : w2.rangeAt b o [.int .i32 y.ver, .slice Y1 y.ins.length yc1, .slice Y2 y.outs.length yc2, .int .u32 y.lock] := hcy
        have hi4 := info_tx4 (.int .i32 y.ver) (.slice Y1 y.ins.length yc1) (.slice Y2 y.outs.length yc2) (.int .u32 y.lock)
        clear hy hcy
        go_wp2_with (first | ((with_reducible refine wpList_at 22 ?_); refine wpList_load_mid rfl 69 (.tmp 21) rfl b o rfl [.int .i32 y.ver, .slice Y1 y.ins.length yc1, .slice Y2 y.outs.length yc2, .int .u32 y.lock] _ hry hU rfl hi4 ?_))
        refine (first_calls w2 _ y [.int .i32 y.ver, .slice Y1 y.ins.length yc1, .slice Y2 y.outs.length yc2, .int .u32 y.lock] hKy (hN.below hB2)).mono ?_
        rintro e w3 ⟨rfl, hb3⟩
        clear hry hKy
        cases hff : firstF y with
        | false =>
          have HW : Hid (QW ts 2) := Lib.hid (Or.inr ⟨rfl, by rw [HF1.out, hff]⟩)
          clear hff
          go_wp2
          go_meet
          case rel => exact ⟨2, rfl, HW, hb3⟩
        | true =>
          have HW : Hid (QW ts 0) := Lib.hid (Or.inl ⟨rfl, by rw [HF1.out, hff]⟩)
          clear hff
          go_wp2
          go_meet
          case rel => exact ⟨0, rfl, HW, hb3⟩
    case rest =>
      obtain ⟨w0v, rfl, HW, hb3⟩ := hcut
      have hB3 := below_then hB2 hB2.size hb3
      have g3 := heap_below hb3 g2
      have tS3 := cell_below hb3 tS2
      have hC3 := RK.C.below hC2 hb3
      clear hb3 g2 tS2 hC2 hB2
      go_upto_block 0 with fail
      go_cut [3] from 29 to 53 (fun v3 wd => v3 = .int .i64 (E1 ts) ∧ Below wc.heap.size wc wd)
      case first =>
        go_wp2_with fail
        go_loopw [3, 28] (fun v3 v28 wr => ∃ (k : Nat) (wv : Int), k ≤ n ∧ v28 = .int .i64 k ∧ v3 = .int .i64 wv ∧ Hid (QA ts k wv) ∧ Below wc.heap.size wc wr) (fun _ v _ => n - (intOf v).toNat)
        case atStart =>
          refine ⟨0, w0v, by omega, rfl, rfl, Lib.hid ⟨fun h => ?_, fun h => ?_⟩, Below.refl _ _⟩
          · rcases HW.out with hw | hw
            · exact ⟨hw.2, by rw [List.drop_zero]⟩
            · omega
          · rcases HW.out with hw | hw
            · exact absurd hw.1 h
            · unfold E1; rw [hw.2]; exact hw.1
        case round =>
          obtain ⟨k, wv, hk', rfl, rfl, HQ, hB⟩ := hrel
          have hbw := below_then hB3 hB3.size hB
          by_cases hlt : k < n
          · have hlt' : (k : Int) < (n : Int) := by omega
            have hkk : (0 : Int) ≤ (k : Int) := by omega
            obtain ⟨b, o, cs, y, hA, hy, hKy, hcy⟩ := (RK.C.below hC3 hB).get k hlt
            subst hA
            have HST := Lib.hid (chk1_step hy k)
            have HSC : Hid (encErr y = checkF y) := Lib.hid (small_check (hOk.out y (List.mem_of_getElem? hy)) (HSM.out.all y (List.mem_of_getElem? hy)))
            obtain ⟨Y1, yc1, Y2, yc2, rfl, y1, y2, y3, y4, _, _⟩ := txK_form hKy
            unfold maxLen at y2 y4
            have hry : wr.rangeAt b (o + k * 4) [.int .i32 y.ver, .slice Y1 y.ins.length yc1, .slice Y2 y.outs.length yc2, .int .u32 y.lock] := hcy
            have hj4 := info_tx4 (.int .i32 y.ver) (.slice Y1 y.ins.length yc1) (.slice Y2 y.outs.length yc2) (.int .u32 y.lock)
            obtain ⟨zc, hzc⟩ := coinsV_form y
            have HZC := Lib.hid hzc
            clear hy hcy hzc
            go_upto_region 13 with (first
              | ((with_reducible refine wpList_at 32 ?_); refine wpList_load_mid rfl 69 (.tmp 31) rfl b (o + k * 4) rfl [.int .i32 y.ver, .slice Y1 y.ins.length yc1, .slice Y2 y.outs.length yc2, .int .u32 y.lock] _ hry hU rfl hj4 ?_))
            refine wp_gen (q := fun wi => wi.heap[wr.heap.size]? = some (.cells ([.int .i32 y.ver, .slice Y1 y.ins.length yc1, .slice Y2 y.outs.length yc2, .int .u32 y.lock]).toArray 69) ∧ Below wr.heap.size wr wi) ⟨heap_alloc_new _ _, (Below.refl _ _).alloc (Nat.le_refl _) _⟩ (fun w5 hw => ?_)
            obtain ⟨g5, hb5⟩ := hw
            have hB5 := below_then hB hB.size hb5
            have hbw5 := below_then hbw hbw.size hb5
            have hKy5 := RK.K_below hKy hb5
            clear hry hKy hb5 hbw hB
            by_cases hz : wv = 0
            · subst hz
              have HS0 : Hid (E1 ts = if encErr y ≠ 0 then 2 else if 0 < k ∧ firstF y = true then 2 else if okC y = false then 24 else chk1 (k + 1) (ts.drop (k + 1))) := Lib.hid (by
                obtain ⟨q1, q2⟩ := HQ.out.1 rfl
                unfold E1
                rw [q1, if_neg (by decide), q2, HST.out])
              have HSF : Hid (first0 ts = true) := Lib.hid (HQ.out.1 rfl).1
              have HSN : Hid (∀ e, E1 ts = e → e ≠ 0 → QA ts (k + 1) e) := Lib.hid (fun e h1 h2 => ⟨fun h => absurd h h2, fun _ => h1.symm⟩)
              have HSK : Hid (E1 ts = chk1 (k + 1) (ts.drop (k + 1)) → QA ts (k + 1) 0) := Lib.hid (fun h1 => ⟨fun _ => ⟨HSF.out, by unfold E1 at h1; rw [HSF.out, if_neg (by decide)] at h1; exact h1⟩, fun h => absurd rfl h⟩)
              go_wp2_with (first | ((with_reducible refine wpList_at 36 ?_); refine wpList_load_row rfl 69 (.tmp 5) rfl wr.heap.size rfl 69 _ _ _ g5 hU rfl hj4 ?_))
              refine (coins_calls w5 _ y [.int .i32 y.ver, .slice Y1 y.ins.length yc1, .slice Y2 y.outs.length yc2, .int .u32 y.lock] hKy5).mono ?_
              rintro e w6 ⟨rfl, hb6⟩
              rw [HZC.out]
              have hB6 := below_then hB5 hB5.size hb6
              have hbw6 := below_then hbw5 hbw5.size hb6
              have g6 := heap_below hb6 g5
              have hKy6 := RK.K_below hKy5 hb6
              clear g5 hKy5 hB5 hbw5 hb6
              go_wp2_with (first | ((with_reducible refine wpList_at 40 ?_); refine wpList_load_row rfl 69 (.tmp 5) rfl wr.heap.size rfl 69 _ _ _ g6 hU rfl hj4 ?_))
              refine (check_calls w6 _ y [.int .i32 y.ver, .slice Y1 y.ins.length yc1, .slice Y2 y.outs.length yc2, .int .u32 y.lock] hKy6).mono ?_
              rintro e w7 ⟨rfl, hb7⟩
              have hB7 := below_then hB6 hB6.size hb7
              have hbw7 := below_then hbw6 hbw6.size hb7
              have g7 := heap_below hb7 g6
              have hKy7 := RK.K_below hKy6 hb7
              have hN7 := hN.below hbw7
              rw [← HSC.out]
              clear g6 hKy6 hB6 hbw6 hb7
              by_cases hE : encErr y = 0
              · have hEq : (encErr y == 0) = true := beq_iff_eq.2 hE
                have hEn : (encErr y != 0) = false := by rw [hE]; rfl
                by_cases hk0 : 0 < k
                · have hk0' : decide ((0 : Int) < (k : Int)) = true := decide_eq_true (by omega)
                  have HS1 : Hid (E1 ts = if firstF y = true then 2 else if okC y = false then 24 else chk1 (k + 1) (ts.drop (k + 1))) := Lib.hid (by
                    rw [HS0.out, if_neg (by rw [hE]; decide)]
                    by_cases hf : firstF y = true
                    · rw [if_pos ⟨hk0, hf⟩, if_pos hf]
                    · rw [if_neg (fun h => hf h.2), if_neg hf])
                  clear hE HS0
                  go_wp2_with (first | ((with_reducible refine wpList_at 47 ?_); refine wpList_load_rowG rfl 69 (.tmp 5) rfl wr.heap.size rfl 69 _ _ _ g7 hU rfl hj4 ?_))
                  refine (first_calls w7 _ y [.int .i32 y.ver, .slice Y1 y.ins.length yc1, .slice Y2 y.outs.length yc2, .int .u32 y.lock] hKy7 hN7).mono ?_
                  rintro e w8 ⟨rfl, hb8⟩
                  have hB8 := below_then hB7 hB7.size hb8
                  clear hKy7 g7 hB7 hbw7 hb8 hN7
                  cases hfy : firstF y with
                  | true =>
                    have HF : Hid (QA ts (k + 1) _) := Lib.hid (HSN.out 2 (by rw [HS1.out, if_pos hfy]) (by decide))
                    go_wp2
                    go_roundw
                    case rel => exact ⟨k + 1, 2, by omega, by go_num, rfl, HF, hB8⟩
                    case measure => simp [intOf]; omega
                  | false =>
                    have HS2 : Hid (E1 ts = if okC y = false then 24 else chk1 (k + 1) (ts.drop (k + 1))) := Lib.hid (by rw [HS1.out, if_neg (by rw [hfy]; decide)])
                    clear hfy HS1
                    cases hoc : okC y with
                    | false =>
                      have HF : Hid (QA ts (k + 1) _) := Lib.hid (HSN.out 24 (by rw [HS2.out, if_pos hoc]) (by decide))
                      go_wp2
                      go_roundw
                      case rel => exact ⟨k + 1, 24, by omega, by go_num, rfl, HF, hB8⟩
                      case measure => simp [intOf]; omega
                    | true =>
                      have HF : Hid (QA ts (k + 1) 0) := Lib.hid (HSK.out (by rw [HS2.out, if_neg (by rw [hoc]; decide)]))
                      go_wp2
                      go_roundw
                      case rel => exact ⟨k + 1, 0, by omega, by go_num, rfl, HF, hB8⟩
                      case measure => simp [intOf]; omega
                · have hk0' : decide ((0 : Int) < (k : Int)) = false := decide_eq_false (by omega)
                  have HS2 : Hid (E1 ts = if okC y = false then 24 else chk1 (k + 1) (ts.drop (k + 1))) := Lib.hid (by rw [HS0.out, if_neg (by rw [hE]; decide), if_neg (fun h => hk0 h.1)])
                  clear hE HS0 hKy7 g7 hbw7 hN7
                  cases hoc : okC y with
                  | false =>
                    have HF : Hid (QA ts (k + 1) _) := Lib.hid (HSN.out 24 (by rw [HS2.out, if_pos hoc]) (by decide))
                    go_wp2
                    go_roundw
                    case rel => exact ⟨k + 1, 24, by omega, by go_num, rfl, HF, hB7⟩
                    case measure => simp [intOf]; omega
                  | true =>
                    have HF : Hid (QA ts (k + 1) 0) := Lib.hid (HSK.out (by rw [HS2.out, if_neg (by rw [hoc]; decide)]))
                    go_wp2
                    go_roundw
                    case rel => exact ⟨k + 1, 0, by omega, by go_num, rfl, HF, hB7⟩
                    case measure => simp [intOf]; omega
              · have hEq : (encErr y == 0) = false := beq_eq_false_iff_ne.2 hE
                have hEn : (encErr y != 0) = true := by simp [bne, hEq]
                have HF : Hid (QA ts (k + 1) _) := Lib.hid (HSN.out 2 (by rw [HS0.out, if_pos hE]) (by decide))
                clear hE HS0 hKy7 g7 hbw7 hN7
                go_wp2
                go_roundw
                case rel => exact ⟨k + 1, 2, by omega, by go_num, rfl, HF, hB7⟩
                case measure => simp [intOf]; omega
            · have hzq : (wv == 0) = false := beq_eq_false_iff_ne.2 hz
              have HV : Hid (wv = E1 ts) := Lib.hid (HQ.out.2 hz)
              clear hz g5 hKy5 hbw5
              go_wp2
              go_meet
              case rel => exact ⟨by rw [HV.out], hB5⟩
          · have hlt' : ¬ (k : Int) < (n : Int) := by omega
            have HV : Hid (wv = E1 ts) := Lib.hid (by
              by_cases hz : wv = 0
              · obtain ⟨q1, q2⟩ := HQ.out.1 hz
                unfold E1
                rw [q1, if_neg (by decide), q2, List.drop_eq_nil_of_le (by rw [HL.out]; omega), hz]
                rfl
              · exact HQ.out.2 hz)
            go_wp2
            go_meet
            case rel => exact ⟨by rw [HV.out], hB⟩
      case rest =>
        obtain ⟨rfl, hb4⟩ := hcut
        have hB4 := below_then hB3 hB3.size hb4
        have g4 := heap_below hb4 g3
        have tS4 := cell_below hb4 tS3
        have hC4 := RK.C.below hC3 hb4
        have HIL : Hid ((idsF ts).length = n) := Lib.hid (by unfold idsF; rw [List.length_map]; exact HL.out)
        obtain ⟨e1v, he1v⟩ : ∃ e, E1 ts = e := ⟨_, rfl⟩
        have HE1 := Lib.hid he1v
        rw [he1v]
        clear hb4 g3 tS3 hC3 hB3 he1v
        go_wp2_with (first | ((with_reducible refine wpList_at 54 ?_); refine wpList_load_row rfl 64 (.tmp 1) rfl w.heap.size rfl 64 _ _ _ g4 hUB rfl hiB ?_))
        refine (ids_calls wc (hT.below hB4) _ h hok A n c ts hnc hcm (by omega) hC4 HLB.out).mono ?_
        rintro e w5 ⟨A8, c8, rfl, hO8, hb5⟩
        have hB5 := below_then hB4 hB4.size hb5
        have g5 := heap_below hb5 g4
        have tS5 := cell_below hb5 tS4
        have hC5 := RK.C.below hC4 hb5
        have hle8 := hO8.le_.1
        have hH5 : HC w5 A8 n (idsF ts) := HOwn.C hO8
        have HE20 : Hid (E2 ts 0 = e1v) := Lib.hid (by
          unfold E2
          rw [HE1.out]
          by_cases hz : e1v = 0
          · rw [hz]; simp
          · rw [if_pos hz])
        clear hb5 g4 tS4 hC4 hO8 hB4
        go_wp2
        go_loopw [3, 64] (fun v3 v64 wr => ∃ (i : Nat), i ≤ n ∧ v64 = .int .i64 i ∧ v3 = .int .i64 (E2 ts i) ∧ Below w5.heap.size w5 wr) (fun _ v _ => n - (intOf v).toNat)
        case atStart => exact ⟨0, by omega, rfl, by rw [HE20.out], Below.refl _ _⟩
        case round =>
          obtain ⟨i, hi, rfl, rfl, hB⟩ := hrel
          have hbw := below_then hB5 hB5.size hB
          have tSr := cell_below hB tS5
          by_cases hlt : i < n
          · have hlt' : (i : Int) < (n : Int) := by omega
            have hii : (0 : Int) ≤ (i : Int) := by omega
            have hHr := RK.C.below hH5 hB
            obtain ⟨b8, o8, hA8, _, hr8⟩ := HC.addr hHr (by omega)
            subst hA8
            have rx := hr8 i hlt
            have hx8 := dg_get (idsF ts) i (by rw [HIL.out]; exact hlt)
            have hdig := HC.digs hHr _ (List.mem_of_getElem? hx8)
            obtain ⟨b, o, cs, y, hA, hy, hKy, hcy⟩ := (RK.C.below hC5 hB).get i hlt
            subst hA
            have hdy : dg (idsF ts) i = idF y := by
              have h1 : (idsF ts)[i]? = some (idF y) := by unfold idsF; rw [List.getElem?_map, hy]; rfl
              exact dg_of h1
            have HLY := Lib.hid (HLB.out y (List.mem_of_getElem? hy))
            obtain ⟨d, hd⟩ : ∃ d, dg (idsF ts) i = d := ⟨_, rfl⟩
            rw [hd] at rx hx8 hdig hdy
            have HX8 := Lib.hid hx8
            have HDY : Hid (dblF (layF y false) = d) := Lib.hid hdy.symm
            have hiD := info_hh d hdig.1
            obtain ⟨Y1, yc1, Y2, yc2, rfl, y1, y2, y3, y4, _, _⟩ := txK_form hKy
            unfold maxLen at y2 y4
            have hry : wr.rangeAt b (o + i * 4) [.int .i32 y.ver, .slice Y1 y.ins.length yc1, .slice Y2 y.outs.length yc2, .int .u32 y.lock] := hcy
            have hj4 := info_tx4 (.int .i32 y.ver) (.slice Y1 y.ins.length yc1) (.slice Y2 y.outs.length yc2) (.int .u32 y.lock)
            have hNE : ∀ W, (Op.equalIn 10000 25 (.agg (nums .u8 d).toArray) (.agg (nums .u8 d).toArray)).run Tryd.prog W = .ok true W := fun W => by
              rw [run_equalIn_nums (P := Tryd.prog) W 9998 25 5 32 .u8 .u8 Tryd.underlying25 Tryd.underlying5 info_u8 d d hdig.1 hdig.1, beq_self_eq_true]
            have rx' : wr.drew.rangeAt b8 (o8 + i * 32) (nums .u8 d) := rx
            have ry' : wr.drew.rangeAt b (o + i * 4) [.int .i32 y.ver, .slice Y1 y.ins.length yc1, .slice Y2 y.outs.length yc2, .int .u32 y.lock] := hry
            have tS' : wr.drew.cell? ⟨w.heap.size, 68, none⟩ = some (.slice (some ⟨b, o, none⟩) n c) := tSr
            have hTr := hT.below hbw
            obtain ⟨ev0, hev0⟩ : ∃ e, E2 ts i = e := ⟨_, rfl⟩
            have HV0 := Lib.hid hev0
            rw [hev0]
            clear hd hx8 hr8 hy hcy hdy hry rx hHr tSr hev0
            go_upto_region 26 with fail
            refine wp_region_noPanic ?_
            refine wp_region_held_drew (S := fun w' => w'.rangeAt b8 (o8 + i * 32) (nums .u8 d) ∧ w'.rangeAt b (o + i * 4) [.int .i32 y.ver, .slice Y1 y.ins.length yc1, .slice Y2 y.outs.length yc2, .int .u32 y.lock] ∧ w'.cell? ⟨w.heap.size, 68, none⟩ = some (.slice (some ⟨b, o, none⟩) n c) ∧ Below wr.heap.size wr w') (by kernel_rfl) ⟨rx', ry', tS', Below.drew (Below.refl _ _)⟩ (fun hHeld => ?_)
            -- 0: law.go:173 slot 67 := Op.move t8
            refine wpAnyH_take (i := 0) (oi := ⟨some 67, _, _, _, _, _⟩) (v := ?_) rfl (by kernel_rfl) (by kernel_rfl) (by kernel_rfl) (fun _ _ _ h => h) (Or.inl ⟨by rfl, ?_⟩) (by assumption) ?_
            rotate_left 1
            · intro w hSw; (try dsimp only at hSw); go_simp; try with_reducible rfl
            simp only [Act.put, List.setIfInBounds_toArray, List.set_cons_zero, List.set_cons_succ]
            -- 1: law.go:173 slot 68 := Op.move t9
            refine wpAnyH_take (i := 1) (oi := ⟨some 68, _, _, _, _, _⟩) (v := ?_) rfl (by kernel_rfl) (by kernel_rfl) (by kernel_rfl) (fun _ _ _ h => h) (Or.inl ⟨by rfl, ?_⟩) (by assumption) ?_
            rotate_left 1
            · intro w hSw; (try dsimp only at hSw); go_simp; try with_reducible rfl
            simp only [Act.put, List.setIfInBounds_toArray, List.set_cons_zero, List.set_cons_succ]
            -- 2: law.go:173 slot 69 := Op.indexAddr 38 t67 t68
            refine wpAnyH_take (i := 2) (oi := ⟨some 69, _, _, _, _, _⟩) (v := ?_) rfl (by kernel_rfl) (by kernel_rfl) (by kernel_rfl) (fun _ _ _ h => h) (Or.inl ⟨by rfl, ?_⟩) (by assumption) ?_
            rotate_left 1
            · intro w hSw; (try dsimp only at hSw); go_simp; try with_reducible rfl
            simp only [Act.put, List.setIfInBounds_toArray, List.set_cons_zero, List.set_cons_succ]
            -- 3: law.go:173 slot 70 := Op.load 25 t69
            refine wpAnyH_take (i := 3) (oi := ⟨some 70, _, _, _, _, _⟩) rfl (by kernel_rfl) (by kernel_rfl) (by kernel_rfl) (fun _ _ _ h => h) (yieldsIf_load_mid (by rfl) _ _ rfl _ _ rfl (nums .u8 d) _ (fun _ h => h.1) hUD rfl hiD) (by assumption) ?_
            simp only [Act.put, List.setIfInBounds_toArray, List.set_cons_zero, List.set_cons_succ]
            -- 4: law.go:173 slot 71 := Op.fieldAddr 64 t1 1
            refine wpAnyH_take (i := 4) (oi := ⟨some 71, _, _, _, _, _⟩) (v := ?_) rfl (by kernel_rfl) (by kernel_rfl) (by kernel_rfl) (fun _ _ _ h => h) (Or.inl ⟨by rfl, ?_⟩) (by assumption) ?_
            rotate_left 1
            · intro w hSw; (try dsimp only at hSw); go_simp; try with_reducible rfl
            simp only [Act.put, List.setIfInBounds_toArray, List.set_cons_zero, List.set_cons_succ]
            -- 5: law.go:173 slot 72 := Op.load 62 t71
            refine wpAnyH_take (i := 5) (oi := ⟨some 72, _, _, _, _, _⟩) (v := ?_) rfl (by kernel_rfl) (by kernel_rfl) (by kernel_rfl) (fun _ _ _ h => h) (Or.inl ⟨by rfl, ?_⟩) (by assumption) ?_
            rotate_left 1
            · intro w hSw; (try dsimp only at hSw); go_simp; try with_reducible rfl
            simp only [Act.put, List.setIfInBounds_toArray, List.set_cons_zero, List.set_cons_succ]
            -- 6: law.go:173 slot 73 := Op.move t9
            refine wpAnyH_take (i := 6) (oi := ⟨some 73, _, _, _, _, _⟩) (v := ?_) rfl (by kernel_rfl) (by kernel_rfl) (by kernel_rfl) (fun _ _ _ h => h) (Or.inl ⟨by rfl, ?_⟩) (by assumption) ?_
            rotate_left 1
            · intro w hSw; (try dsimp only at hSw); go_simp; try with_reducible rfl
            simp only [Act.put, List.setIfInBounds_toArray, List.set_cons_zero, List.set_cons_succ]
            -- 7: law.go:173 slot 74 := Op.indexAddr 62 t72 t73
            refine wpAnyH_take (i := 7) (oi := ⟨some 74, _, _, _, _, _⟩) (v := ?_) rfl (by kernel_rfl) (by kernel_rfl) (by kernel_rfl) (fun _ _ _ h => h) (Or.inl ⟨by rfl, ?_⟩) (by assumption) ?_
            rotate_left 1
            · intro w hSw; (try dsimp only at hSw); go_simp; try with_reducible rfl
            simp only [Act.put, List.setIfInBounds_toArray, List.set_cons_zero, List.set_cons_succ]
            -- 8: law.go:173 slot 75 := Op.load 69 t74
            refine wpAnyH_take (i := 8) (oi := ⟨some 75, _, _, _, _, _⟩) rfl (by kernel_rfl) (by kernel_rfl) (by kernel_rfl) (fun _ _ _ h => h) (yieldsIf_load_mid (by rfl) _ _ rfl _ _ rfl ([.int .i32 y.ver, .slice Y1 y.ins.length yc1, .slice Y2 y.outs.length yc2, .int .u32 y.lock]) _ (fun _ h => h.2.1) hU rfl hj4) (by assumption) ?_
            simp only [Act.put, List.setIfInBounds_toArray, List.set_cons_zero, List.set_cons_succ]
            -- 9: law.go:173 slot 76 := Op.call { value (Operand.func 43), args := #[t75], argTypes := #[69] }
            refine wpAnyH_ready (rs := [9]) (by kernel_rfl) (by simp) ?_
            refine AllReadyH.cons (o := ⟨some 76, _, _, _, _, _⟩) rfl (fun K hK => ?_) AllReadyH.nil
            go_simp
            refine (txid_calls _ (hTr.below hHeld.2.2.2) _ y [.int .i32 y.ver, .slice Y1 y.ins.length yc1, .slice Y2 y.outs.length yc2, .int .u32 y.lock] (RK.K_below hKy hHeld.2.2.2) HLY.out.1 HLY.out.2).mono ?_
            rintro e w6 ⟨rfl, hbz⟩
            rw [HDY.out]
            refine hK.out _ _ ⟨range_below hbz hHeld.1, range_below hbz hHeld.2.1, cell_below hbz hHeld.2.2.1, below_then hHeld.2.2.2 hHeld.2.2.2.size hbz⟩ (fun hHeld' => ?_)
            clear hHeld
            have hHeld := hHeld'
            clear hHeld'
            clear hK K
            try (simp only [Act.put, List.setIfInBounds_toArray, List.set_cons_zero, List.set_cons_succ])
            -- 10: law.go:173 slot 77 := Op.binOp BinOp.neq 25 t70 t76 25
            refine wpAnyH_take (i := 10) (oi := ⟨some 77, _, _, _, _, _⟩) (v := ?_) rfl (by kernel_rfl) (by kernel_rfl) (by kernel_rfl) (fun _ _ _ h => h) (Or.inl ⟨by rfl, ?_⟩) (by assumption) ?_
            rotate_left 1
            · intro w hSw; (try dsimp only at hSw); go_simp; try with_reducible rfl
            simp only [Act.put, List.setIfInBounds_toArray, List.set_cons_zero, List.set_cons_succ]
            refine wpAnyH_done (by kernel_rfl) ?_ _
            refine NoPanic.normal ?_
            have hB6 := below_then hB hB.size hHeld.2.2.2
            have hb6 : Below wr.heap.size wr w6 := hHeld.2.2.2
            have hHq := RK.C.below (RK.C.below hH5 hB) hb6
            clear hHeld rx' ry' tS' hTr hKy hNE
            have HV1 : Hid (E3 ts i 0 d = ev0) := Lib.hid (by rw [E3_zero, HV0.out])
            go_wp2
            go_loopw [3, 10] (fun v3 v10 wq => ∃ (k : Nat), k ≤ i ∧ v10 = .int .i64 k ∧ v3 = .int .i64 (E3 ts i k d) ∧ Below w6.heap.size w6 wq) (fun _ v _ => i - (intOf v).toNat)
            case atStart => exact ⟨0, by omega, rfl, by rw [HV1.out], Below.refl _ _⟩
            case round =>
              obtain ⟨k, hk, rfl, rfl, hBq⟩ := hrel
              by_cases hkl : k < i
              · have hkl' : (k : Int) < (i : Int) := by omega
                have hkn' : (k : Int) < (n : Int) := by omega
                have hkk : (0 : Int) ≤ (k : Int) := by omega
                obtain ⟨b9, o9, hA9, _, hr9⟩ := HC.addr (RK.C.below hHq hBq) (by omega)
                injection hA9 with hA9
                injection hA9 with q1 q2
                subst q1 q2
                have ri := hr9 i hlt
                have rk := hr9 k (by omega)
                have hxk := dg_get (idsF ts) k (by rw [HIL.out]; omega)
                have hdk := HC.digs hHq _ (List.mem_of_getElem? hxk)
                rw [dg_of HX8.out] at ri
                obtain ⟨dk, hdk0⟩ : ∃ d, dg (idsF ts) k = d := ⟨_, rfl⟩
                rw [hdk0] at rk hxk hdk
                have hiK := info_hh dk hdk.1
                have HST := Lib.hid (E3_step (i := i) (d := d) hxk)
                obtain ⟨ev, hev⟩ : ∃ e, E3 ts i k d = e := ⟨_, rfl⟩
                rw [hev] at HST ⊢
                have hEQ : ∀ W, (Op.equalIn 10000 25 (.agg (nums .u8 d).toArray) (.agg (nums .u8 dk).toArray)).run Tryd.prog W = .ok (d == dk) W := fun W =>
                  run_equalIn_nums (P := Tryd.prog) W 9998 25 5 32 .u8 .u8 Tryd.underlying25 Tryd.underlying5 info_u8 d dk hdig.1 hdk.1
                clear hr9 hxk hdk0 hev
                go_upto_region 31 with fail
                by_cases hz : ev = 0
                · subst hz
                  by_cases he : d = dk
                  · have heq : (d == dk) = true := beq_iff_eq.2 he
                    have HN : Hid (E3 ts i (k + 1) d = 23) := Lib.hid (by rw [HST.out, if_pos ⟨rfl, he⟩])
                    rw [heq] at hEQ
                    clear he
                    refine wp_region_quiet_lit (by kernel_rfl) (by kernel_rfl) ?_
                    repeat (first
                      | ((with_reducible refine wpQuiet_at 89 ?_); refine wpQuiet_load_midG rfl 25 (.tmp 88) rfl b8 (o8 + i * 32) rfl (nums .u8 d) _ ri hUD rfl hiD ?_)
                      | ((with_reducible refine wpQuiet_at 93 ?_); refine wpQuiet_load_midG rfl 25 (.tmp 92) rfl b8 (o8 + k * 32) rfl (nums .u8 dk) _ rk hUD rfl hiK ?_)
                      | go_big_quiet_step (fail) | quiet_step (fail))
                    refine wpQuiet_nil ?_
                    rintro _ ⟨nq, rfl⟩
                    go_wp2
                    go_roundw
                    case rel => exact ⟨k + 1, by omega, by go_num, by rw [HN.out], below_drewN hBq nq⟩
                    case measure => simp [intOf]; omega
                  · have heq : (d == dk) = false := beq_eq_false_iff_ne.2 he
                    have HN : Hid (E3 ts i (k + 1) d = 0) := Lib.hid (by rw [HST.out, if_neg (fun h => he h.2)])
                    rw [heq] at hEQ
                    clear he
                    refine wp_region_quiet_lit (by kernel_rfl) (by kernel_rfl) ?_
                    repeat (first
                      | ((with_reducible refine wpQuiet_at 89 ?_); refine wpQuiet_load_midG rfl 25 (.tmp 88) rfl b8 (o8 + i * 32) rfl (nums .u8 d) _ ri hUD rfl hiD ?_)
                      | ((with_reducible refine wpQuiet_at 93 ?_); refine wpQuiet_load_midG rfl 25 (.tmp 92) rfl b8 (o8 + k * 32) rfl (nums .u8 dk) _ rk hUD rfl hiK ?_)
                      | go_big_quiet_step (fail) | quiet_step (fail))
                    refine wpQuiet_nil ?_
                    rintro _ ⟨nq, rfl⟩
                    go_wp2
                    go_roundw
                    case rel => exact ⟨k + 1, by omega, by go_num, by rw [HN.out], below_drewN hBq nq⟩
                    case measure => simp [intOf]; omega
                · have hzq : (ev == 0) = false := beq_eq_false_iff_ne.2 hz
                  have HN : Hid (E3 ts i (k + 1) d = ev) := Lib.hid (by rw [HST.out, if_neg (fun h => hz h.1)])
                  clear hz
                  refine wp_region_quiet_lit (by kernel_rfl) (by kernel_rfl) ?_
                  repeat (first | go_big_quiet_step (fail) | quiet_step (fail))
                  refine wpQuiet_nil ?_
                  rintro _ ⟨nq, rfl⟩
                  go_wp2
                  go_roundw
                  case rel => exact ⟨k + 1, by omega, by go_num, by rw [HN.out], below_drewN hBq nq⟩
                  case measure => simp [intOf]; omega
              · have hkl' : ¬ (k : Int) < (i : Int) := by omega
                have hki : k = i := by omega
                subst hki
                have HN : Hid (E3 ts k k d = E2 ts (k + 1)) := Lib.hid (E3_full HX8.out)
                rw [HN.out]
                have hBz := below_then hB6 hB6.size hBq
                go_wp2
                go_roundw
                case rel => exact ⟨k + 1, by omega, by go_num, rfl, hBz⟩
                case measure => simp [intOf]; omega
          · have hlt' : ¬ (i : Int) < (n : Int) := by omega
            have hin : i = n := by omega
            subst hin
            have HCF := Lib.hid (chkF_E2 h ts i HIL.out)
            obtain ⟨ev, hev⟩ : ∃ e, E2 ts i = e := ⟨_, rfl⟩
            rw [hev] at HCF ⊢
            have hrl : (rootF (idsF ts)).length = 32 := (rootF_dig _ _ (Nat.le_refl _) (idsF_digs ts)).1
            obtain ⟨rt, hrt⟩ : ∃ rt, rootF (idsF ts) = rt := ⟨_, rfl⟩
            have HRT := Lib.hid hrt
            rw [hrt] at HCF hrl
            have hTr := hT.below hbw
            have hHC := RK.C.below hH5 hB
            have gr := heap_below hB g5
            have hCr := RK.C.below hC5 hB
            have rR : wr.drew.rangeAt w.heap.size 33 (nums .u8 h.root) := by
              have := range_sub (range_headB gr) 33 32
              rwa [Hd.drop33 hok, Nat.zero_add] at this
            clear hrt hev tSr g5 tS5 hC5 hH5
            go_upto_region 34 with fail
            by_cases hz : ev = 0
            · subst hz
              by_cases hre : rt = h.root
              · have HF : Hid (chkF h ts = 0) := Lib.hid (by rw [HCF.out, if_neg (fun h => h.2 hre)])
                have hNE : ∀ W, (Op.equalIn 10000 25 (.agg (nums .u8 rt).toArray) (.agg (nums .u8 h.root).toArray)).run Tryd.prog W = .ok true W := fun W => by
                  rw [run_equalIn_nums (P := Tryd.prog) W 9998 25 5 32 .u8 .u8 Tryd.underlying25 Tryd.underlying5 info_u8 rt h.root hrl hok.root.1, beq_iff_eq.2 hre]
                clear hre
                refine wp_region_noPanic ?_
                refine wp_region_held_drew (S := fun w' => w'.rangeAt w.heap.size 33 (nums .u8 h.root) ∧ Below wr.heap.size wr w') (by kernel_rfl) ⟨rR, Below.drew (Below.refl _ _)⟩ (fun hHeld => ?_)
                -- 0: law.go:182 slot 97 := Op.move t3
                refine wpAnyH_take (i := 0) (oi := ⟨some 97, _, _, _, _, _⟩) (v := ?_) rfl (by kernel_rfl) (by kernel_rfl) (by kernel_rfl) (fun _ _ _ h => h) (Or.inl ⟨by rfl, ?_⟩) (by assumption) ?_
                rotate_left 1
                · intro w hSw; (try dsimp only at hSw); go_simp; try with_reducible rfl
                simp only [Act.put, List.setIfInBounds_toArray, List.set_cons_zero, List.set_cons_succ]
                -- 1: law.go:182 slot 98 := Op.binOp BinOp.eql 47 t97 (const (0:i64)) 47
                refine wpAnyH_take (i := 1) (oi := ⟨some 98, _, _, _, _, _⟩) (v := ?_) rfl (by kernel_rfl) (by kernel_rfl) (by kernel_rfl) (fun _ _ _ h => h) (Or.inl ⟨by rfl, ?_⟩) (by assumption) ?_
                rotate_left 1
                · intro w hSw; (try dsimp only at hSw); go_simp; try with_reducible rfl
                simp only [Act.put, List.setIfInBounds_toArray, List.set_cons_zero, List.set_cons_succ]
                -- 2: law.go:182 slot 99 := Op.move t98
                refine wpAnyH_take (i := 2) (oi := ⟨some 99, _, _, _, _, _⟩) (v := ?_) rfl (by kernel_rfl) (by kernel_rfl) (by kernel_rfl) (fun _ _ _ h => h) (Or.inl ⟨by rfl, ?_⟩) (by assumption) ?_
                rotate_left 1
                · intro w hSw; (try dsimp only at hSw); go_simp; try with_reducible rfl
                simp only [Act.put, List.setIfInBounds_toArray, List.set_cons_zero, List.set_cons_succ]
                -- 3: law.go:182 slot 100 := Op.move t8 [guarded: some (2, true)]
                refine wpAnyH_take (i := 3) (oi := ⟨some 100, _, _, _, _, _⟩) (v := ?_) rfl (by kernel_rfl) (by kernel_rfl) (by kernel_rfl) (fun _ _ _ h => h) (Or.inl ⟨by rfl, ?_⟩) (by assumption) ?_
                rotate_left 1
                · intro w hSw; (try dsimp only at hSw); go_simp; try with_reducible rfl
                simp only [Act.put, List.setIfInBounds_toArray, List.set_cons_zero, List.set_cons_succ]
                -- 5: law.go:182 slot 102 := Op.fieldAddr 64 t1 0 [guarded: some (2, true)]
                refine wpAnyH_take (i := 5) (oi := ⟨some 102, _, _, _, _, _⟩) (v := ?_) rfl (by kernel_rfl) (by kernel_rfl) (by kernel_rfl) (fun _ _ _ h => h) (Or.inl ⟨by rfl, ?_⟩) (by assumption) ?_
                rotate_left 1
                · intro w hSw; (try dsimp only at hSw); go_simp; try with_reducible rfl
                simp only [Act.put, List.setIfInBounds_toArray, List.set_cons_zero, List.set_cons_succ]
                -- 6: law.go:182 slot 103 := Op.fieldAddr 53 t102 2 [guarded: some (2, true)]
                refine wpAnyH_take (i := 6) (oi := ⟨some 103, _, _, _, _, _⟩) (v := ?_) rfl (by kernel_rfl) (by kernel_rfl) (by kernel_rfl) (fun _ _ _ h => h) (Or.inl ⟨by rfl, ?_⟩) (by assumption) ?_
                rotate_left 1
                · intro w hSw; (try dsimp only at hSw); go_simp; try with_reducible rfl
                simp only [Act.put, List.setIfInBounds_toArray, List.set_cons_zero, List.set_cons_succ]
                -- 7: law.go:182 slot 104 := Op.load 25 t103 [guarded: some (2, true)]
                refine wpAnyH_take (i := 7) (oi := ⟨some 104, _, _, _, _, _⟩) rfl (by kernel_rfl) (by kernel_rfl) (by kernel_rfl) (fun _ _ _ h => h) (yieldsIf_load_mid (by rfl) _ _ rfl _ _ rfl (nums .u8 h.root) _ (fun _ h => h.1) hUD rfl hiR) (by assumption) ?_
                simp only [Act.put, List.setIfInBounds_toArray, List.set_cons_zero, List.set_cons_succ]
                -- 4: law.go:182 slot 101 := Op.call { value (Operand.func 28), args := #[t100], argTypes := #[38] } [guarded: some (2, true)]
                refine wpAnyH_ready (rs := [4]) (by kernel_rfl) (by simp) ?_
                refine AllReadyH.cons (o := ⟨some 101, _, _, _, _, _⟩) rfl (fun K hK => ?_) AllReadyH.nil
                go_simp
                refine (blkroot_calls _ (hTr.below hHeld.2) A8 i c8 (idsF ts) hle8 (by omega) (RK.C.below hHC hHeld.2)).mono ?_
                rintro e w9 ⟨rfl, hbz⟩
                rw [HRT.out]
                refine hK.out _ _ ⟨range_below hbz hHeld.1, below_then hHeld.2 hHeld.2.size hbz⟩ (fun hHeld' => ?_)
                clear hHeld
                have hHeld := hHeld'
                clear hHeld'
                clear hK K
                try (simp only [Act.put, List.setIfInBounds_toArray, List.set_cons_zero, List.set_cons_succ])
                -- 8: law.go:182 slot 105 := Op.binOp BinOp.neq 25 t101 t104 25 [guarded: some (2, true)]
                refine wpAnyH_take (i := 8) (oi := ⟨some 105, _, _, _, _, _⟩) (v := ?_) rfl (by kernel_rfl) (by kernel_rfl) (by kernel_rfl) (fun _ _ _ h => h) (Or.inl ⟨by rfl, ?_⟩) (by assumption) ?_
                rotate_left 1
                · intro w hSw; (try dsimp only at hSw); go_simp; try with_reducible rfl
                simp only [Act.put, List.setIfInBounds_toArray, List.set_cons_zero, List.set_cons_succ]
                -- 9: law.go:182 slot 106 := Op.pick t99 t105 (const (Value.bool false))
                refine wpAnyH_take (i := 9) (oi := ⟨some 106, _, _, _, _, _⟩) (v := ?_) rfl (by kernel_rfl) (by kernel_rfl) (by kernel_rfl) (fun _ _ _ h => h) (Or.inl ⟨by rfl, ?_⟩) (by assumption) ?_
                rotate_left 1
                · intro w hSw; (try dsimp only at hSw); go_simp; try with_reducible rfl
                simp only [Act.put, List.setIfInBounds_toArray, List.set_cons_zero, List.set_cons_succ]
                refine wpAnyH_done (by kernel_rfl) ?_ _
                refine NoPanic.normal ?_
                have hBx := below_then hbw hbw.size (hHeld.2)
                have gx := heap_below (hHeld.2) gr
                have hCx := RK.C.below hCr (hHeld.2)
                clear rR hHC hTr
                go_wp2_with (first | ((with_reducible refine wpList_at 107 ?_); refine wpList_load_row rfl 64 (.tmp 1) rfl w.heap.size rfl 64 _ _ _ gx hUB rfl hiB ?_))
                refine (chk_calls (w9) (hT.below hBx) (hN.below hBx) _ h hok A i c ts hnc hcm (by omega) hCx).mono ?_
                rintro e wz ⟨rfl, hbz⟩
                rw [HF.out]
                have hbe := below_then hBx hBx.size hbz
                clear gx hCx hBx hbz
                go_wp2
                go_ret
                exact ⟨rfl, hbe⟩
              · have HF : Hid (chkF h ts = 21) := Lib.hid (by rw [HCF.out, if_pos ⟨rfl, hre⟩])
                have hNE : ∀ W, (Op.equalIn 10000 25 (.agg (nums .u8 rt).toArray) (.agg (nums .u8 h.root).toArray)).run Tryd.prog W = .ok false W := fun W => by
                  rw [run_equalIn_nums (P := Tryd.prog) W 9998 25 5 32 .u8 .u8 Tryd.underlying25 Tryd.underlying5 info_u8 rt h.root hrl hok.root.1, beq_eq_false_iff_ne.2 hre]
                clear hre
                refine wp_region_noPanic ?_
                refine wp_region_held_drew (S := fun w' => w'.rangeAt w.heap.size 33 (nums .u8 h.root) ∧ Below wr.heap.size wr w') (by kernel_rfl) ⟨rR, Below.drew (Below.refl _ _)⟩ (fun hHeld => ?_)
                -- 0: law.go:182 slot 97 := Op.move t3
                refine wpAnyH_take (i := 0) (oi := ⟨some 97, _, _, _, _, _⟩) (v := ?_) rfl (by kernel_rfl) (by kernel_rfl) (by kernel_rfl) (fun _ _ _ h => h) (Or.inl ⟨by rfl, ?_⟩) (by assumption) ?_
                rotate_left 1
                · intro w hSw; (try dsimp only at hSw); go_simp; try with_reducible rfl
                simp only [Act.put, List.setIfInBounds_toArray, List.set_cons_zero, List.set_cons_succ]
                -- 1: law.go:182 slot 98 := Op.binOp BinOp.eql 47 t97 (const (0:i64)) 47
                refine wpAnyH_take (i := 1) (oi := ⟨some 98, _, _, _, _, _⟩) (v := ?_) rfl (by kernel_rfl) (by kernel_rfl) (by kernel_rfl) (fun _ _ _ h => h) (Or.inl ⟨by rfl, ?_⟩) (by assumption) ?_
                rotate_left 1
                · intro w hSw; (try dsimp only at hSw); go_simp; try with_reducible rfl
                simp only [Act.put, List.setIfInBounds_toArray, List.set_cons_zero, List.set_cons_succ]
                -- 2: law.go:182 slot 99 := Op.move t98
                refine wpAnyH_take (i := 2) (oi := ⟨some 99, _, _, _, _, _⟩) (v := ?_) rfl (by kernel_rfl) (by kernel_rfl) (by kernel_rfl) (fun _ _ _ h => h) (Or.inl ⟨by rfl, ?_⟩) (by assumption) ?_
                rotate_left 1
                · intro w hSw; (try dsimp only at hSw); go_simp; try with_reducible rfl
                simp only [Act.put, List.setIfInBounds_toArray, List.set_cons_zero, List.set_cons_succ]
                -- 3: law.go:182 slot 100 := Op.move t8 [guarded: some (2, true)]
                refine wpAnyH_take (i := 3) (oi := ⟨some 100, _, _, _, _, _⟩) (v := ?_) rfl (by kernel_rfl) (by kernel_rfl) (by kernel_rfl) (fun _ _ _ h => h) (Or.inl ⟨by rfl, ?_⟩) (by assumption) ?_
                rotate_left 1
                · intro w hSw; (try dsimp only at hSw); go_simp; try with_reducible rfl
                simp only [Act.put, List.setIfInBounds_toArray, List.set_cons_zero, List.set_cons_succ]
                -- 5: law.go:182 slot 102 := Op.fieldAddr 64 t1 0 [guarded: some (2, true)]
                refine wpAnyH_take (i := 5) (oi := ⟨some 102, _, _, _, _, _⟩) (v := ?_) rfl (by kernel_rfl) (by kernel_rfl) (by kernel_rfl) (fun _ _ _ h => h) (Or.inl ⟨by rfl, ?_⟩) (by assumption) ?_
                rotate_left 1
                · intro w hSw; (try dsimp only at hSw); go_simp; try with_reducible rfl
                simp only [Act.put, List.setIfInBounds_toArray, List.set_cons_zero, List.set_cons_succ]
                -- 6: law.go:182 slot 103 := Op.fieldAddr 53 t102 2 [guarded: some (2, true)]
                refine wpAnyH_take (i := 6) (oi := ⟨some 103, _, _, _, _, _⟩) (v := ?_) rfl (by kernel_rfl) (by kernel_rfl) (by kernel_rfl) (fun _ _ _ h => h) (Or.inl ⟨by rfl, ?_⟩) (by assumption) ?_
                rotate_left 1
                · intro w hSw; (try dsimp only at hSw); go_simp; try with_reducible rfl
                simp only [Act.put, List.setIfInBounds_toArray, List.set_cons_zero, List.set_cons_succ]
                -- 7: law.go:182 slot 104 := Op.load 25 t103 [guarded: some (2, true)]
                refine wpAnyH_take (i := 7) (oi := ⟨some 104, _, _, _, _, _⟩) rfl (by kernel_rfl) (by kernel_rfl) (by kernel_rfl) (fun _ _ _ h => h) (yieldsIf_load_mid (by rfl) _ _ rfl _ _ rfl (nums .u8 h.root) _ (fun _ h => h.1) hUD rfl hiR) (by assumption) ?_
                simp only [Act.put, List.setIfInBounds_toArray, List.set_cons_zero, List.set_cons_succ]
                -- 4: law.go:182 slot 101 := Op.call { value (Operand.func 28), args := #[t100], argTypes := #[38] } [guarded: some (2, true)]
                refine wpAnyH_ready (rs := [4]) (by kernel_rfl) (by simp) ?_
                refine AllReadyH.cons (o := ⟨some 101, _, _, _, _, _⟩) rfl (fun K hK => ?_) AllReadyH.nil
                go_simp
                refine (blkroot_calls _ (hTr.below hHeld.2) A8 i c8 (idsF ts) hle8 (by omega) (RK.C.below hHC hHeld.2)).mono ?_
                rintro e w9 ⟨rfl, hbz⟩
                rw [HRT.out]
                refine hK.out _ _ ⟨range_below hbz hHeld.1, below_then hHeld.2 hHeld.2.size hbz⟩ (fun hHeld' => ?_)
                clear hHeld
                have hHeld := hHeld'
                clear hHeld'
                clear hK K
                try (simp only [Act.put, List.setIfInBounds_toArray, List.set_cons_zero, List.set_cons_succ])
                -- 8: law.go:182 slot 105 := Op.binOp BinOp.neq 25 t101 t104 25 [guarded: some (2, true)]
                refine wpAnyH_take (i := 8) (oi := ⟨some 105, _, _, _, _, _⟩) (v := ?_) rfl (by kernel_rfl) (by kernel_rfl) (by kernel_rfl) (fun _ _ _ h => h) (Or.inl ⟨by rfl, ?_⟩) (by assumption) ?_
                rotate_left 1
                · intro w hSw; (try dsimp only at hSw); go_simp; try with_reducible rfl
                simp only [Act.put, List.setIfInBounds_toArray, List.set_cons_zero, List.set_cons_succ]
                -- 9: law.go:182 slot 106 := Op.pick t99 t105 (const (Value.bool false))
                refine wpAnyH_take (i := 9) (oi := ⟨some 106, _, _, _, _, _⟩) (v := ?_) rfl (by kernel_rfl) (by kernel_rfl) (by kernel_rfl) (fun _ _ _ h => h) (Or.inl ⟨by rfl, ?_⟩) (by assumption) ?_
                rotate_left 1
                · intro w hSw; (try dsimp only at hSw); go_simp; try with_reducible rfl
                simp only [Act.put, List.setIfInBounds_toArray, List.set_cons_zero, List.set_cons_succ]
                refine wpAnyH_done (by kernel_rfl) ?_ _
                refine NoPanic.normal ?_
                have hBx := below_then hbw hbw.size (hHeld.2)
                have gx := heap_below (hHeld.2) gr
                have hCx := RK.C.below hCr (hHeld.2)
                clear rR hHC hTr
                go_wp2_with (first | ((with_reducible refine wpList_at 107 ?_); refine wpList_load_row rfl 64 (.tmp 1) rfl w.heap.size rfl 64 _ _ _ gx hUB rfl hiB ?_))
                refine (chk_calls (w9) (hT.below hBx) (hN.below hBx) _ h hok A i c ts hnc hcm (by omega) hCx).mono ?_
                rintro e wz ⟨rfl, hbz⟩
                rw [HF.out]
                have hbe := below_then hBx hBx.size hbz
                clear gx hCx hBx hbz
                go_wp2
                go_ret
                exact ⟨rfl, hbe⟩
            · have hzq : (ev == 0) = false := beq_eq_false_iff_ne.2 hz
              have HF : Hid (chkF h ts = ev) := Lib.hid (by rw [HCF.out, if_neg (fun h => hz h.1)])
              clear hz
              refine wp_region_quiet_lit (by kernel_rfl) (by kernel_rfl) ?_
              repeat (first | go_big_quiet_step (fail) | quiet_step (fail))
              refine wpQuiet_nil ?_
              rintro _ ⟨nq, rfl⟩
              have hbd : Below wr.heap.size wr (wr.drewN nq) := below_drewN (Below.refl _ _) nq
              have hBx := below_then hbw hbw.size (hbd)
              have gx := heap_below (hbd) gr
              have hCx := RK.C.below hCr (hbd)
              clear rR hHC hTr
              go_wp2_with (first | ((with_reducible refine wpList_at 107 ?_); refine wpList_load_row rfl 64 (.tmp 1) rfl w.heap.size rfl 64 _ _ _ gx hUB rfl hiB ?_))
              refine (chk_calls ((wr.drewN nq)) (hT.below hBx) (hN.below hBx) _ h hok A i c ts hnc hcm (by omega) hCx).mono ?_
              rintro e wz ⟨rfl, hbz⟩
              rw [HF.out]
              have hbe := below_then hBx hBx.size hbz
              clear gx hCx hBx hbz
              go_wp2
              go_ret
              exact ⟨rfl, hbe⟩
end Go.Proofs.YtjlkakggmfmfiaaDoor
