/- tailracelaw07.Plain: the transaction as the reference has it. -/
import Derived.Test.YtjlkakggmfmfiaaBuildIn
import Derived.Test.YtjlkakggmfmfiaaBase
set_option maxRecDepth 100000
set_option linter.unusedVariables false
namespace Go.Proofs.Ytjlkakggmfmfiaa
open Go Go.RowKit
theorem RK.C.lt_ {α : Type} {d : RK α} {S : Nat → Prop} {w : World} {A : Option Addr} {n : Nat} {xs : List α} (hd : ∀ x cs, d.K S w x cs → d.K (fun b => S b ∧ b < w.heap.size) w x cs) (h : d.C S w A n xs) : d.C (fun b => S b ∧ b < w.heap.size) w A n xs := by
  refine ⟨h.1, fun hn => ?_⟩
  obtain ⟨b, o, hA, hS, hb, hc⟩ := h.2 hn
  exact ⟨b, o, hA, ⟨hS, hb⟩, hb, fun i x hx => by obtain ⟨cs, hK, hcs⟩ := hc i x hx; exact ⟨cs, hd _ _ hK, hcs⟩⟩
theorem inK_lt {S : Nat → Prop} {w : World} (x : TIn) (cs : List Value) (h : inK.K S w x cs) : inK.K (fun b => S b ∧ b < w.heap.size) w x cs := by
  obtain ⟨A, n, c, h1, h2, h3, h4, h5⟩ := h
  exact ⟨A, n, c, h1, h2, h3, h4, RK.C.lt_ (fun _ _ h => h) h5⟩
theorem txK_lt {S : Nat → Prop} {w : World} {t : TTx} {cs : List Value} (h : txK.K S w t cs) : txK.K (fun b => S b ∧ b < w.heap.size) w t cs := by
  obtain ⟨A1, n1, c1, A2, n2, c2, h1, h2, h3, h4, h5, h6, h7, h8, h9⟩ := h
  exact ⟨A1, n1, c1, A2, n2, c2, h1, h2, h3, h4, h5, h6, h7, RK.C.lt_ inK_lt h8, RK.C.lt_ (fun _ _ h => h) h9⟩
abbrev InsOwn (w : World) (S : Nat → Prop) (base : Nat) (v : Value) (n : Nat) (xs : List TIn) : Prop := inK.Own S w base 69 v n xs
abbrev OutsOwn (w : World) (base : Nat) (v : Value) (n : Nat) (xs : List TOut) : Prop := outK.Own (fun _ => False) w base 70 v n xs
theorem take_one {α : Type} (xs : List α) (k : Nat) (x : α) (h : xs[k]? = some x) : xs.take (k + 1) = xs.take k ++ [x] := by rw [List.take_add_one, h]; rfl
theorem zinfo_rin : (Try.prog.info? 69).map (fun i => (i.zero, i.size, i.bytes)) = some (some (.agg (inCells in0 (.slice none 0 0)).toArray), 36, 88) := by kernel_rfl
theorem zinfo_rout : (Try.prog.info? 70).map (fun i => (i.zero, i.size, i.bytes)) = some (some (.agg #[.int .i64 0, .string ⟨#[]⟩]), 2, 24) := by kernel_rfl
theorem info_rtx4 (x0 x1 x2 x3 : Value) : (Try.prog.info? 46).map (·.size) = some (#[x0, x1, x2, x3] : Array Value).size := by rw [show (#[x0, x1, x2, x3] : Array Value).size = 4 from rfl]; kernel_rfl
theorem txK_vl {S : Nat → Prop} {w : World} {t : TTx} {cs : List Value} (h : txK.K S w t cs) : (-2147483648 ≤ t.ver ∧ t.ver ≤ 2147483647) ∧ (0 ≤ t.lock ∧ t.lock ≤ 4294967295) := by
  obtain ⟨A1, n1, c1, A2, n2, c2, _, hv, hl, _⟩ := h
  exact ⟨hv, hl⟩
def PlainPost (w : World) (S : Nat → Prop) (t : TTx) (e : Ending) (w' : World) : Prop := ∃ cs, e = .returned (.agg cs.toArray) ∧ txK.K (fun b => (S b ∧ b < w.heap.size) ∨ w.heap.size ≤ b) w' t cs ∧ Below w.heap.size w w'
set_option maxHeartbeats 4000000 in
theorem plain_calls (w : World) (S : Nat → Prop) (t : TTx) (cs : List Value) (hK : txK.K S w t cs) (hn1 : t.ins.length ≤ 100000) (hn2 : t.outs.length ≤ 100000) : Calls Try.prog 16 #[.agg cs.toArray] w (PlainPost w S t) := by
  have hvl := txK_vl hK
  obtain ⟨A1, c1, A2, c2, rfl, h1, h2, h3, h4, hI, hO⟩ := txK_form (txK_lt hK)
  have hU2 := Try.underlying61
  have hU3 := Try.underlying63
  have hm2 := h2
  have hm4 := h4
  unfold maxLen at h2 h4
  obtain ⟨n1, hi1⟩ : ∃ n1, t.ins.length = n1 := ⟨_, rfl⟩
  obtain ⟨n2, hi2⟩ : ∃ n2, t.outs.length = n2 := ⟨_, rfl⟩
  rw [hi1] at h1 hI hn1 ⊢
  rw [hi2] at h3 hO hn2 ⊢
  have HI1 := Lib.hid hi1
  have HI2 := Lib.hid hi2
  clear hi1 hi2
  go_enter Try.func16, Try.ntmps16
  go_upto_region 2 with fail
  obtain ⟨wb, hwb⟩ : ∃ wb, (w.alloc (.cells #[.int .i32 t.ver, .slice A1 n1 c1, .slice A2 n2 c2, .int .u32 t.lock] 35)).alloc (.cells #[.int .i32 0, .slice none 0 0, .slice none 0 0, .int .u32 0] 46) = wb := ⟨_, rfl⟩
  have hbb : Below w.heap.size w wb := by rw [← hwb]; exact ((Below.refl _ _).alloc (Nat.le_refl _) _).alloc (by simp) _
  have hbs : wb.heap.size = w.heap.size + 1 + 1 := by rw [← hwb]; simp
  have hb0 : wb.heap[w.heap.size]? = some (.cells #[.int .i32 t.ver, .slice A1 n1 c1, .slice A2 n2 c2, .int .u32 t.lock] 35) := by rw [← hwb]; exact blk_alloc (heap_alloc_new w _) _
  have hb1 : wb.heap[w.heap.size + 1]? = some (.cells (tCells 0 (.slice none 0 0) (.slice none 0 0) 0) 46) := by
    rw [← hwb]
    have := heap_alloc_new (w.alloc (.cells #[.int .i32 t.ver, .slice A1 n1 c1, .slice A2 n2 c2, .int .u32 t.lock] 35)) (.cells #[.int .i32 0, .slice none 0 0, .slice none 0 0, .int .u32 0] 46)
    simpa using this
  rw [hwb]
  clear hwb
  have hg := heap_alloc_new wb (.cells (tCells t.ver (.slice none 0 0) (.slice none 0 0) t.lock) 46)
  rw [hbs] at hg
  have hbw : Below wb.heap.size wb (wb.alloc (.cells (tCells t.ver (.slice none 0 0) (.slice none 0 0) t.lock) 46)) := (Below.refl _ _).alloc (Nat.le_refl _) _
  have hsz : w.heap.size + 1 + 1 + 1 ≤ (wb.alloc (.cells (tCells t.ver (.slice none 0 0) (.slice none 0 0) t.lock) 46)).heap.size := by simp [hbs]
  refine wp_gen (q := fun wi => Below wb.heap.size wb wi ∧ wi.heap[w.heap.size + 1 + 1]? = some (.cells (tCells t.ver (.slice none 0 0) (.slice none 0 0) t.lock) 46) ∧ w.heap.size + 1 + 1 + 1 ≤ wi.heap.size) ⟨hbw, hg, hsz⟩ (fun w0 hw => ?_)
  clear hbw hg hsz
  obtain ⟨hB0, hg0, hs0⟩ := hw
  have HBS := Lib.hid hbs
  have hI1 := RK.C.below hI hbb
  have hO1 := RK.C.below hO hbb
  have t1 : wb.cell? ⟨w.heap.size, 1, none⟩ = some (.slice A1 n1 c1) := blk_cell hb0 rfl
  have t2 : wb.cell? ⟨w.heap.size, 2, none⟩ = some (.slice A2 n2 c2) := blk_cell hb0 rfl
  have t10 := cell_below hB0 t1
  clear hbs hI hO hb0
  have hE0 : InsOwn w0 (fun b => S b ∧ b < w.heap.size) (w.heap.size + 1 + 1 + 1) (.slice none 0 0) 0 [] := RK.Own.nil _ _ _ _ _
  go_wp2
  go_loopw [16] (fun v16 wr => ∃ (k : Nat) (A : Option Addr) (N c : Nat), k ≤ n1 ∧ v16 = .int .i64 k ∧ N = k ∧ InsOwn wr (fun b => S b ∧ b < w.heap.size) (w.heap.size + 1 + 1 + 1) (.slice A N c) N (t.ins.take k) ∧ wr.heap[w.heap.size + 1 + 1]? = some (.cells (tCells t.ver (.slice A N c) (.slice none 0 0) t.lock) 46) ∧ Below wb.heap.size wb wr ∧ w.heap.size + 1 + 1 + 1 ≤ wr.heap.size) (fun v _ => n1 - (intOf v).toNat)
  case atStart => exact ⟨0, none, 0, 0, by omega, rfl, rfl, hE0, hg0, hB0, hs0⟩
  case round =>
    clear hE0 hg0 hB0 hs0 t10
    obtain ⟨k, A, N, c, hk, rfl, hNk, hE, hg, hB, hs⟩ := hrel
    have HNK := Lib.hid hNk
    clear hNk
    by_cases hlt : k < n1
    · have hlt' : (k : Int) < (n1 : Int) := by omega
      have hkk : (0 : Int) ≤ (k : Int) := by omega
      obtain ⟨b, o, x, Aw, nw, cw, hA1, hx, hrg0, hok, hw1, hw2, hwc⟩ := in_at hI1 k hlt
      have hrg := range_below hB hrg0
      have hidl := hok.idl
      have i1 := info_in x hidl (.slice Aw nw cw)
      have HX := Lib.hid hx
      subst hA1
      clear hx hrg0
      go_upto_region 5 with (first | ((with_reducible refine wpList_at 19 ?_); refine wpList_load_mid rfl 61 (.tmp 18) rfl b (o + k * 36) rfl (inCells x (.slice Aw nw cw)) _ hrg hU2 rfl i1 ?_) | ((with_reducible refine wpList_atS 5 ?_); refine wpList_store_any rfl 61 (.tmp 5) (.tmp 19) rfl wr.heap.size (inCells x (.slice Aw nw cw)).toArray rfl rfl 61 (inCells in0 (.slice none 0 0)).toArray (heap_alloc_new _ _) (info_inA x hidl _) (in_sizes x hidl _) (in_one x _ rfl) ?_; intro w2 g2 ht2))
      have hb2 : Below wr.heap.size wr w2 := ht2.below ((Below.refl wr.heap.size wr).alloc (Nat.le_refl _) _) (Nat.le_refl _)
      have hgw2 := heap_below hb2 hg
      have hE2 := RK.Own.below hE hb2
      have hB2 := below_then hB hB.size hb2
      have hs2 := hb2.size
      have hws := ht2.size
      have d1 := blk_cell hgw2 (i := 1) (v := .slice A N c) rfl
      have rid : w2.rangeAt wr.heap.size 0 (nums .u8 x.id) := fun j v hv => by
        rw [Nat.zero_add]
        have := range_block (xs := inCells x (.slice Aw nw cw)) g2 j v (by unfold inCells; rw [List.getElem?_append_left (List.getElem?_eq_some_iff.1 hv).1]; exact hv)
        rwa [Nat.zero_add] at this
      have s0 : w2.cell? ⟨wr.heap.size, 32, none⟩ = some (.int .u32 x.out) := blk_cell g2 (by rw [List.getElem?_toArray]; exact inCells_at hidl _ 0)
      have s1 : w2.cell? ⟨wr.heap.size, 33, none⟩ = some (.string x.script) := blk_cell g2 (by rw [List.getElem?_toArray]; exact inCells_at hidl _ 1)
      have s2 : w2.cell? ⟨wr.heap.size, 34, none⟩ = some (.int .u32 x.seq) := blk_cell g2 (by rw [List.getElem?_toArray]; exact inCells_at hidl _ 2)
      have s3 : w2.cell? ⟨wr.heap.size, 35, none⟩ = some (.slice Aw nw cw) := blk_cell g2 (by rw [List.getElem?_toArray]; exact inCells_at hidl _ 3)
      have ii : (Try.prog.info? 23).map (·.size) = some (nums .u8 x.id).length := by rw [nums_length, hidl]; kernel_rfl
      have hB1 := hB
      clear hB
      have hwc2 : RK.str.C (fun b => S b ∧ b < w.heap.size) w2 Aw nw x.wit := RK.C.below (RK.C.below hwc hB1) hb2
      have hnw2 := hwc2.len
      have hs3 : w.heap.size + 1 + 1 + 1 ≤ w2.heap.size := by omega
      have hKx : inK.K (fun b => S b ∧ b < w.heap.size) w2 x (inCells x (.slice Aw nw cw)) := ⟨Aw, nw, cw, rfl, hok, hw1, hw2, hwc2⟩
      have hq1 : InsOwn (w2.alloc (.cells (inCells x (.slice Aw nw cw)).toArray 69)) (fun b => S b ∧ b < w.heap.size) (w.heap.size + 1 + 1 + 1) (.slice A N c) N (t.ins.take k) := RK.Own.alloc hE2 _
      have hq2 : inK.Src (fun b => S b ∧ b < w.heap.size) (w2.alloc (.cells (inCells x (.slice Aw nw cw)).toArray 69)) (some ⟨w2.heap.size, 0, none⟩) 1 [x] := RK.Src.one (heap_alloc_new _ _) (RK.K_below hKx ((Below.refl _ _).alloc (Nat.le_refl _) _))
      have hq3 : w.heap.size + 1 + 1 + 1 ≤ (w2.alloc (.cells (inCells x (.slice Aw nw cw)).toArray 69)).heap.size := by simp; omega
      have hNl : N + 1 ≤ 100001 := by have := HNK.out; omega
      have hq4 : (N + 1) * 88 ≤ 140737488355328 := by omega
      have hq5 : N + 1 ≤ maxLen := by unfold maxLen; omega
      have hq6 : t.ins.take k ++ [x] = t.ins.take (k + 1) := (take_one t.ins k x HX.out).symm
      have hzi := zinfo_rin
      have hzc : (Value.agg (inCells in0 (.slice none 0 0)).toArray).cells.size = inK.sz := rfl
      have hgw2a := blk_alloc hgw2 (.cells (inCells x (.slice Aw nw cw)).toArray 69)
      have hSS : ∀ q, (S q ∧ q < w.heap.size) → some q ≠ (Value.slice A N c).ownBlock := fun q hq e => by have := (RK.Own.lt hE2 q e.symm).1; omega
      have hlo : ∀ q, (Value.slice A N c).ownBlock = some q → w.heap.size + 1 + 1 + 1 ≤ q := fun q hq => (RK.Own.lt hE2 q hq).1
      have HLO := Lib.hid hlo
      have HSS := Lib.hid hSS
      have HQ6 := Lib.hid hq6
      have HNW2 := Lib.hid hnw2
      clear hb2 ht2 hg hE hB1 hrg hwc hwc2 hKx hlo hSS hq6 hnw2
      go_upto_region 6 with (first
          | ((with_reducible refine wpList_at 24 ?_); refine wpList_load_mid rfl 23 (.tmp 23) rfl wr.heap.size 0 rfl (nums .u8 x.id) _ rid Try.underlying23 rfl ii ?_)
          | ((with_reducible refine wpList_at 34 ?_); refine wpList_build_in rfl _ rfl x hidl Aw nw cw rfl ?_)
          | ((with_reducible refine wpList_at 35 ?_); refine wpList_build1 rfl 43 69 _ rfl Try.underlying43 _ 36 88 zinfo_rin (by decide) (by decide) (inCells x (.slice Aw nw cw)) (inCells_length hidl _) rfl rfl ?_)
          | ((with_reducible refine wpList_at 36 ?_); refine RK.wpList_appK' inK _ rfl (.tmp 21) (.tmp 35) 43 rfl (fun b => S b ∧ b < w.heap.size) (w.heap.size + 1 + 1 + 1) 69 _ 88 Try.underlying43 hzi hzc (by decide) (.slice A N c) N (t.ins.take k) rfl hq1 HSS.out _ 1 1 [x] rfl hq2 (N + 1) _ rfl HQ6.out hq5 hq4 hq3 ?_
             intro A9 c9 w9 hO9 hG9 hat9
             have hg9 := heap_grown hG9 hgw2a (fun e => by have := HLO.out _ e.symm; omega)
             have d9 := blk_cell hg9 (i := 1) (v := .slice A N c) rfl
             have f9 := blk_frozen hg9 1
             have hs9 := Lib.hid hG9.size
             have HG9 := Lib.hid hG9
             clear hq1 hq2 hq3 hq4 hq5 hzi hzc hgw2a d1 hgw2 hG9 hat9 rid s0 s1 s2 s3
             refine wp_stopper ?_))
      refine Lib.hid ?_
      go_upto_region 6 with fail
      have hT9 := turned_setCell w9 (w.heap.size + 1 + 1) 1 (.slice A9 (N + 1) c9)
      have hg10 := blk_set hg9 1 (.slice A9 (N + 1) c9)
      have hO10 : InsOwn (w9.setCell ⟨w.heap.size + 1 + 1, 1, none⟩ (.slice A9 (N + 1) c9)) (fun b => S b ∧ b < w.heap.size) (w.heap.size + 1 + 1 + 1) (.slice A9 (N + 1) c9) (N + 1) (t.ins.take (k + 1)) := RK.Own.grownS hO9 hT9.grown (fun q e => by cases e; omega)
      have hWa : Below w2.heap.size w2 (w2.alloc (.cells (inCells x (.slice Aw nw cw)).toArray 69)) := (Below.refl _ _).alloc (Nat.le_refl _) _
      have hB9 := (below_then hB2 hB2.size hWa).grown HG9.out (below_then hB2 hB2.size hWa).size (fun q e => by have := HLO.out q e; have := HBS.out; omega)
      have hB10 := hT9.below hB9 (by have := HBS.out; omega)
      have hs10 : w.heap.size + 1 + 1 + 1 ≤ (w9.setCell ⟨w.heap.size + 1 + 1, 1, none⟩ (.slice A9 (N + 1) c9)).heap.size := by have h1 := hs9.out; rw [hT9.size]; simp at h1; omega
      clear hT9 hWa hB9 hO9 hg9 d9 f9 hs9 HG9 hB2 hE2
      go_wp2
      go_roundw
      case rel => exact ⟨k + 1, A9, N + 1, c9, by omega, by go_num, by rw [HNK.out], hO10, hg10, hB10, hs10⟩
      case measure => simp [intOf]; omega
    · have hlt' : ¬ (k : Int) < (n1 : Int) := by omega
      have hfull : t.ins.take k = t.ins := List.take_of_length_le (by have := HI1.out; omega)
      rw [hfull] at hE
      have hNn : N = n1 := by have := HNK.out; omega
      subst hNn
      obtain ⟨base, hbase⟩ : ∃ base, wr.heap.size = base := ⟨_, rfl⟩
      have hleE := RK.Own.le_ hE
      have hIC : inK.C (fun b => (S b ∧ b < w.heap.size) ∨ (w.heap.size + 1 + 1 + 1 ≤ b ∧ b < base)) wr A N t.ins := RK.Own.C_ hE (fun _ h => .inl h) (fun b hb => .inr (by have := RK.Own.lt hE b hb; omega))
      have hbs' : base ≤ wr.heap.size := by omega
      have hbl : w.heap.size + 1 + 1 + 1 ≤ base := by omega
      have t1r := cell_below hB t1
      have t2r := cell_below hB t2
      have hF0 : OutsOwn wr base (.slice none 0 0) 0 [] := RK.Own.nil _ _ _ _ _
      clear hE hfull hlt hbase hs
      go_wp2
      go_loopw [42] (fun v42 wq => ∃ (j : Nat) (A' : Option Addr) (M c' : Nat), j ≤ n2 ∧ v42 = .int .i64 j ∧ M = j ∧ OutsOwn wq base (.slice A' M c') M (t.outs.take j) ∧ inK.C (fun b => (S b ∧ b < w.heap.size) ∨ (w.heap.size + 1 + 1 + 1 ≤ b ∧ b < base)) wq A N t.ins ∧ wq.heap[w.heap.size + 1 + 1]? = some (.cells (tCells t.ver (.slice A N c) (.slice A' M c') t.lock) 46) ∧ Below wb.heap.size wb wq ∧ base ≤ wq.heap.size) (fun v _ => n2 - (intOf v).toNat)
      case atStart => exact ⟨0, none, 0, 0, by omega, rfl, rfl, hF0, hIC, hg, hB, hbs'⟩
      case round =>
        clear hF0 hIC hg hB hbs' t1r t2r
        obtain ⟨j, A', M, c', hj, rfl, hMj, hF, hIC, hg, hB, hs⟩ := hrel
        have HMJ := Lib.hid hMj
        clear hMj
        by_cases hjl : j < n2
        · have hjl' : (j : Int) < (n2 : Int) := by omega
          have hjj : (0 : Int) ≤ (j : Int) := by omega
          obtain ⟨bo, oo, x, hAo, hxo, hc0, hc1, hoo⟩ := out_at hO1 j hjl
          subst hAo
          have hc0' := cell_below hB hc0
          have hc1' := cell_below hB hc1
          have HXO := Lib.hid hxo
          clear hxo hc0 hc1
          go_upto_region 10 with fail
          have hWa : Below wr.heap.size wr (wr.alloc (.cells #[.int .i64 x.coins, .string x.script] 63)) := (Below.refl _ _).alloc (Nat.le_refl _) _
          refine wp_gen (q := fun wi => Below wr.heap.size wr wi ∧ wi.heap[wr.heap.size]? = some (.cells #[.int .i64 x.coins, .string x.script] 63)) ⟨hWa, heap_alloc_new _ _⟩ (fun w2 hw => ?_)
          clear hWa
          obtain ⟨hb2, g2⟩ := hw
          have hgw2 := heap_below hb2 hg
          have d2 := blk_cell hgw2 (i := 2) (v := .slice A' M c') rfl
          have s0 : w2.cell? ⟨wr.heap.size, 0, none⟩ = some (.int .i64 x.coins) := blk_cell g2 rfl
          have s1 : w2.cell? ⟨wr.heap.size, 1, none⟩ = some (.string x.script) := blk_cell g2 rfl
          have hF2 := RK.Own.below hF hb2
          have hB2 := below_then hB hB.size hb2
          have hIC2 := RK.C.below hIC hb2
          have hs2 := Nat.le_trans hs hb2.size
          have hq1 : OutsOwn (w2.alloc (.cells #[.int .i64 x.coins, .string x.script] 70)) base (.slice A' M c') M (t.outs.take j) := RK.Own.alloc hF2 _
          have hq2 : outK.Src (fun _ => False) (w2.alloc (.cells #[.int .i64 x.coins, .string x.script] 70)) (some ⟨w2.heap.size, 0, none⟩) 1 [x] := RK.Src.one (cs := [.int .i64 x.coins, .string x.script]) (heap_alloc_new _ _) ⟨rfl, hoo⟩
          have hq3 : base ≤ (w2.alloc (.cells #[.int .i64 x.coins, .string x.script] 70)).heap.size := by simp; omega
          have hMl : M + 1 ≤ 100001 := by have := HMJ.out; omega
          have hq4 : (M + 1) * 24 ≤ 140737488355328 := by omega
          have hq5 : M + 1 ≤ maxLen := by unfold maxLen; omega
          have HQ6 : Hid (t.outs.take j ++ [x] = t.outs.take (j + 1)) := Lib.hid (take_one t.outs j x HXO.out).symm
          have hzi := zinfo_rout
          have hzc : (Value.agg #[.int .i64 0, .string ⟨#[]⟩]).cells.size = outK.sz := rfl
          have hgw2a := blk_alloc hgw2 (.cells #[.int .i64 x.coins, .string x.script] 70)
          have HLO : Hid (∀ q, (Value.slice A' M c').ownBlock = some q → base ≤ q) := Lib.hid fun q hq => (RK.Own.lt hF2 q hq).1
          clear hg hF hB hIC hs
          go_upto_region 11 with (first
            | ((with_reducible refine wpList_at 50 ?_); refine RK.wpList_appK' outK _ rfl (.tmp 47) (.tmp 49) 44 rfl (fun _ => False) base 70 _ 24 Try.underlying44 hzi hzc (by decide) (.slice A' M c') M (t.outs.take j) rfl hq1 (fun _ h => h.elim) _ 1 1 [x] rfl hq2 (M + 1) _ rfl HQ6.out hq5 hq4 hq3 ?_
               intro A9 c9 w9 hO9 hG9 hat9
               have hg9 := heap_grown hG9 hgw2a (fun e => by have := HLO.out _ e.symm; omega)
               have d9 := blk_cell hg9 (i := 2) (v := .slice A' M c') rfl
               have f9 := blk_frozen hg9 2
               have hs9 := Lib.hid hG9.size
               have HG9 := Lib.hid hG9
               clear hq1 hq2 hq3 hq4 hq5 hzi hzc hgw2a d2 hgw2 hG9 hat9 s0 s1
               refine wp_stopper ?_))
          refine Lib.hid ?_
          go_upto_region 11 with fail
          have hT9 := turned_setCell w9 (w.heap.size + 1 + 1) 2 (.slice A9 (M + 1) c9)
          have hg10 := blk_set hg9 2 (.slice A9 (M + 1) c9)
          have hO10 : OutsOwn (w9.setCell ⟨w.heap.size + 1 + 1, 2, none⟩ (.slice A9 (M + 1) c9)) base (.slice A9 (M + 1) c9) (M + 1) (t.outs.take (j + 1)) := RK.Own.grown_ hO9 hT9.grown (fun q e => by cases e; omega)
          have hWa : Below w2.heap.size w2 (w2.alloc (.cells #[.int .i64 x.coins, .string x.script] 70)) := (Below.refl _ _).alloc (Nat.le_refl _) _
          have hB9 := (below_then hB2 hB2.size hWa).grown HG9.out (below_then hB2 hB2.size hWa).size (fun q e => by have := HLO.out q e; have := HBS.out; omega)
          have hB10 := hT9.below hB9 (by have := HBS.out; omega)
          have hs10 : base ≤ (w9.setCell ⟨w.heap.size + 1 + 1, 2, none⟩ (.slice A9 (M + 1) c9)).heap.size := by have h1 := hs9.out; rw [hT9.size]; simp at h1; omega
          have hIC9 : inK.C (fun b => (S b ∧ b < w.heap.size) ∨ (w.heap.size + 1 + 1 + 1 ≤ b ∧ b < base)) (w9.setCell ⟨w.heap.size + 1 + 1, 2, none⟩ (.slice A9 (M + 1) c9)) A N t.ins :=
            (RK.C.below hIC2 hWa).move (fun q hq hlt => (hT9.block q (by omega)).trans (HG9.out.block q hlt (fun e => by have := HLO.out q e.symm; omega)))
          clear hT9 hWa hB9 hO9 hg9 d9 f9 hs9 HG9 hB2 hF2 hIC2
          go_wp2
          go_roundw
          case rel => exact ⟨j + 1, A9, M + 1, c9, by omega, by go_num, by rw [HMJ.out], hO10, hIC9, hg10, hB10, hs10⟩
          case measure => simp [intOf]; omega
        · have hjl' : ¬ (j : Int) < (n2 : Int) := by omega
          have hfull : t.outs.take j = t.outs := List.take_of_length_le (by have := HI2.out; omega)
          rw [hfull] at hF
          have hMn : M = n2 := by have := HMJ.out; omega
          subst hMn
          have hleF := RK.Own.le_ hF
          have hz1 := heap_below hB hb1
          have hOC : outK.C (fun b => base ≤ b) wr A' M t.outs := RK.Own.C_ hF (fun _ h => h.elim) (fun b hb => (RK.Own.lt hF b hb).1)
          have hi4 := info_rtx4 (.int .i32 t.ver) (.slice A N c) (.slice A' M c') (.int .u32 t.lock)
          have hH1 := Lib.hid hleE
          have hH2 := Lib.hid hleF
          clear hF hfull hleE hleF
          go_wp2_with (first
            | ((with_reducible refine wpList_at 53 ?_); refine wpList_load_row rfl 46 (.tmp 3) rfl (w.heap.size + 1 + 1) rfl 46 _ _ _ hg Try.underlying46 rfl hi4 ?_)
            | ((with_reducible refine wpList_atS 2 ?_); refine wpList_store_any rfl 46 (.tmp 2) (.tmp 53) rfl (w.heap.size + 1) (tCells t.ver (.slice A N c) (.slice A' M c') t.lock) rfl rfl 46 _ hz1 hi4 rfl (one_tx4 _ _ _ _ _ _ _ _) ?_; intro w3 g3 ht3))
          have hK3 : txK.K (fun b => (S b ∧ b < w.heap.size) ∨ w.heap.size ≤ b) w3 t [.int .i32 t.ver, .slice A N c, .slice A' M c', .int .u32 t.lock] := by
            refine ⟨A, N, c, A', M, c', rfl, hvl.1, hvl.2, hH1.out.1, hH1.out.2, hH2.out.1, hH2.out.2, ?_, ?_⟩
            · exact two_C hIC (fun q hq hlt => ht3.block q (by omega)) (fun q hq => by rcases hq with hq | hq; exact .inl hq; exact .inr (by omega))
            · exact two_C hOC (fun q hq hlt => ht3.block q (by omega)) (fun q hq => .inr (by omega))
          have hB3 := ht3.below (below_then hbb hbb.size hB) (by omega)
          exact bodyPost_ret (results_cell_row rfl _ _ (w.heap.size + 1) 46 _ (0, 0) _ rfl g3 Try.underlying46 rfl hi4) rfl ⟨[.int .i32 t.ver, .slice A N c, .slice A' M c', .int .u32 t.lock], rfl, hK3, hB3⟩
end Go.Proofs.Ytjlkakggmfmfiaa
