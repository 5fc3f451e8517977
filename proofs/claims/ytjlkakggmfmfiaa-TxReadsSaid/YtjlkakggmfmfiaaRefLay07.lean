/- tailraceref07.Lay: the bytes that the reference lays. -/
import Derived.Test.YtjlkakggmfmfiaaRefHas07
import Derived.Test.YtjlkakggmfmfiaaPlain07
set_option maxRecDepth 100000
set_option linter.unusedVariables false
namespace Go.Proofs.Ytjlkakggmfmfiaa
open Go Go.RowKit
/-- The bytes so far, in a row of the call's own. -/
structure OutSt (w0 w : World) (A : Option Addr) (L c : Nat) (q : List Int) : Prop where
  own : w.ownsRow w0.heap.size 5 1 (.slice A L c) L (nums .u8 q)
  below : Below w0.heap.size w0 w
theorem OutSt.call {w0 w w' : World} {A : Option Addr} {L c : Nat} {q : List Int} (h : OutSt w0 w A L c q) (hb : Below w.heap.size w w') : OutSt w0 w' A L c q := ⟨own_below h.own hb, below_then h.below h.below.size hb⟩
theorem OutSt.lt {w0 w : World} {A : Option Addr} {L c : Nat} {q : List Int} (h : OutSt w0 w A L c q) : ∀ k, (Value.slice A L c).ownBlock = some k → k < w.heap.size := fun k hk => (h.own.lt k hk).2
theorem OutSt.app {w0 w w' : World} {A : Option Addr} {L c : Nat} {q : List Int} (h : OutSt w0 w A L c q) {A' : Option Addr} {L' c' : Nat} {zs : List Int} (hO : w'.ownsRow w0.heap.size 5 1 (.slice A' L' c') L' (nums .u8 zs)) (hG : w.grownBy w' (Value.slice A L c).ownBlock) : OutSt w0 w' A' L' c' zs :=
  ⟨hO, h.below.grown hG h.below.size (fun k hk => own_base h.own k hk)⟩
theorem wpList_appB {w0 w : World} {ops : Array Oper} {rest : List Oper} {o : Oper} {a : Act} {Q : Exit → Act → World → Prop} (hgd : o.guard = none) (s x : Operand)
    (ho : o.op = .call { callee := .builtin .append, args := #[s, x], argTypes := #[36, 36] })
    (A : Option Addr) (L c : Nat) (q : List Int) (hs : a.eval s = .slice A L c) (hown : OutSt w0 w A L c q) (B : Option Addr) (m d : Nat) (z : List Int) (hx : a.eval x = .slice B m d) (hr : Rd w B m (nums .u8 z))
    (hlen : q.length + z.length ≤ 100000000000)
    (h : ∀ A' L' c' w', OutSt w0 w' A' L' c' (q ++ z) → w.grownBy w' (Value.slice A L c).ownBlock → (∀ b, b < w.heap.size → some b ≠ (Value.slice A L c).ownBlock → some b ≠ (Value.slice A' L' c').ownBlock) → wpList Try.prog ops Q rest (a.put o.dst (.slice A' L' c')) w') : wpList Try.prog ops Q (o :: rest) a w := by
  have hL := own_len hown.own
  have hm : z.length = m := by have := hr.1; rwa [nums_length] at this
  refine wpList_appN hgd s x 36 ho w0.heap.size 5 _ 1 Try.underlying36 infoU8 rfl (.slice A L c) L (nums .u8 q) hs hown.own B m d (nums .u8 z) hx hr (nums_one _ _) (L + m) (nums .u8 (q ++ z)) rfl (nums_append _ _ _).symm (by unfold maxLen; omega) (by omega) hown.below.size ?_
  intro A' c' w' hO hG hX
  refine h A' (L + m) c' w' (hown.app hO hG) hG (fun b hb hne e => ?_)
  rcases hX with hX | hX
  · exact hne (e.trans hX)
  · rw [hX] at e
    have := Option.some.inj e
    omega
theorem flat_step {α : Type} (f : α → List Int) (xs : List α) (k : Nat) (x : α) (h : xs[k]? = some x) : ((xs.take k).flatMap f).length + (f x).length ≤ (xs.flatMap f).length := by
  have h1 := take_flat f xs k x h
  have h2 := take_flat_le f xs (k + 1)
  rw [h1, List.length_append] at h2
  exact h2
theorem rinfo_outA (x : TOut) : (Try.prog.info? 70).map (·.size) = some (outCells x).toArray.size := by rw [List.size_toArray]; kernel_rfl
set_option maxHeartbeats 8000000 in
theorem rlay_calls (w : World) (S : Nat → Prop) (t : TTx) (cs : List Value) (hK : txK.K S w t cs) (wit : Bool) (hlen : (layF t wit).length ≤ 10000000000) (hbd : Bounds t) :
    Calls Try.prog 24 #[.agg cs.toArray, .bool wit] w (FreshPost w (layF t wit)) := by
  have hvl := txK_vl hK
  obtain ⟨A1, c1, A2, c2, rfl, h1, h2, h3, h4, hI, hO⟩ := txK_form hK
  have hU2 := Try.underlying69
  have hq1 := hbd.i1
  have hq2 := hbd.o1
  have hsi := hbd.ins
  have hso := hbd.outs
  unfold maxLen at h2 h4
  obtain ⟨n1, hi1⟩ : ∃ n1, t.ins.length = n1 := ⟨_, rfl⟩
  obtain ⟨n2, hi2⟩ : ∃ n2, t.outs.length = n2 := ⟨_, rfl⟩
  rw [hi1] at h1 hI hq1 ⊢
  rw [hi2] at h3 hO hq2 ⊢
  have HSI := Lib.hid hsi
  have HSO := Lib.hid hso
  obtain ⟨I, hII⟩ : ∃ I, (t.ins.flatMap layIn).length = I := ⟨_, rfl⟩
  obtain ⟨O, hOO⟩ : ∃ O, (t.outs.flatMap layOut).length = O := ⟨_, rfl⟩
  obtain ⟨Wt, hWW⟩ : ∃ Wt, (t.ins.flatMap layWit).length = Wt := ⟨_, rfl⟩
  have hl3 : I + O + (if wit then Wt else 0) ≤ 10000000000 := by
    simp only [layF, List.length_append, leF_length] at hlen
    cases wit
    · simp only [Bool.false_eq_true, if_false, List.length_nil] at hlen ⊢
      omega
    · simp only [if_true, List.length_cons, List.length_nil] at hlen ⊢
      omega
  have HL : Hid (layF t wit = leF 4 (t.ver % 4294967296).toNat ++ (if wit then [0, 1] else []) ++ compF n1 ++ t.ins.flatMap layIn ++ compF n2 ++ t.outs.flatMap layOut ++ (if wit then t.ins.flatMap layWit else []) ++ leF 4 t.lock.toNat) := Lib.hid (by rw [← hi1, ← hi2]; rfl)
  have HI1 := Lib.hid hi1
  have HI2 := Lib.hid hi2
  have HII := Lib.hid hII
  have HOO := Lib.hid hOO
  have HWW := Lib.hid hWW
  have hcp1 := compF_le n1
  have hcp2 := compF_le n2
  have hb0 : Below w.heap.size w (w.alloc (.cells (tCells t.ver (.slice A1 n1 c1) (.slice A2 n2 c2) t.lock) 46)) := (Below.refl _ _).alloc (Nat.le_refl _) _
  have hg0 := heap_alloc_new w (.cells (tCells t.ver (.slice A1 n1 c1) (.slice A2 n2 c2) t.lock) 46)
  have hvw : IntKind.u32.wrap t.ver = ((t.ver % 4294967296).toNat : Int) := by rw [IntKind.wrap_u32]; omega
  have hvn : (t.ver % 4294967296).toNat < 4294967296 := by omega
  obtain ⟨vn, hvn'⟩ : ∃ vn, (t.ver % 4294967296).toNat = vn := ⟨_, rfl⟩
  rw [hvn'] at hvw hvn HL
  have hvu : IntKind.u64.wrap (vn : Int) = (vn : Int) := by rw [IntKind.wrap_u64]; omega
  clear hi1 hi2 hII hOO hWW hsi hso hK hlen hvn'
  go_enter Try.func24, Try.ntmps24
  go_upto_region 1 with fail
  refine wp_gen (q := fun wi => Below w.heap.size w wi ∧ wi.heap[w.heap.size]? = some (.cells (tCells t.ver (.slice A1 n1 c1) (.slice A2 n2 c2) t.lock) 46)) ⟨hb0, hg0⟩ (fun w0 hw => ?_)
  clear hb0 hg0
  obtain ⟨hb0, hg0⟩ := hw
  have x0 : w0.cell? ⟨w.heap.size, 0, none⟩ = some (.int .i32 t.ver) := blk_cell hg0 rfl
  have x1 : w0.cell? ⟨w.heap.size, 1, none⟩ = some (.slice A1 n1 c1) := blk_cell hg0 rfl
  have x2 : w0.cell? ⟨w.heap.size, 2, none⟩ = some (.slice A2 n2 c2) := blk_cell hg0 rfl
  have x3 : w0.cell? ⟨w.heap.size, 3, none⟩ = some (.int .u32 t.lock) := blk_cell hg0 rfl
  have hI0 := RK.C.below hI hb0
  have hO0 := RK.C.below hO hb0
  clear hg0 hI hO
  go_wp2_with fail
  refine (reflit_calls w0 vn 4 (by omega) (by decide) _ rfl _ rfl).mono ?_
  rintro e w1 hp
  obtain ⟨B1, d1, rfl, hoB, hb1⟩ := hp.fresh
  have hs1 : OutSt w0 w1 B1 (leF 4 vn).length d1 (leF 4 vn) := ⟨hoB, hb1⟩
  obtain ⟨L1, hL1⟩ : ∃ L1, (leF 4 vn).length = L1 := ⟨_, rfl⟩
  rw [hL1] at hs1 ⊢
  clear hp hoB hb1 hL1 x0 hvw hvu
  have HVN : Hid (vn = vn) := Lib.hid rfl
  obtain ⟨pre, hpre⟩ : ∃ pre, leF 4 vn ++ (if wit then [0, 1] else []) = pre := ⟨_, rfl⟩
  have hprl : pre.length ≤ 6 := by
    rw [← hpre, List.length_append, leF_length]
    cases wit
    · simp
    · simp
  rw [hpre] at HL
  have HPRE := Lib.hid hpre
  clear hpre
  go_upto_if 19 with fail
  go_cut [5] from 20 to 22 (fun v5 wd => ∃ A L c, v5 = .slice A L c ∧ OutSt w0 wd A L c pre)
  case first =>
    cases wit with
    | true =>
      have hE : Hid (leF 4 vn ++ [0, 1] = pre) := Lib.hid (by rw [← HPRE.out]; rfl)
      have hr2 : Rd (w1.alloc (.cells (nums .u8 [0, 1]).toArray 5)) (some ⟨w1.heap.size, 0, none⟩) 2 (nums .u8 [0, 1]) := Rd.of_block0 (xs := nums .u8 [0, 1]) (heap_alloc_new w1 _)
      have hs2 := hs1.call ((Below.refl _ _).alloc (Nat.le_refl _) (.cells (nums .u8 [0, 1]).toArray 5))
      go_wp2_with (first | ((with_reducible refine wpList_at 22 ?_); refine wpList_appB rfl (.tmp 20) (.tmp 21) rfl B1 L1 d1 (leF 4 vn) rfl hs2 _ 2 2 [0, 1] rfl hr2 (by rw [leF_length]; decide) ?_; intro A3 L3 c3 w3 hs3 hG3 hX3))
      rw [hE.out] at hs3
      clear hs1 hs2 hr2 hG3 hX3
      go_meet
      case rel => exact ⟨A3, L3, c3, rfl, hs3⟩
    | false =>
      have hE : Hid (leF 4 vn = pre) := Lib.hid (by rw [← HPRE.out]; simp)
      rw [hE.out] at hs1
      go_wp2
      go_meet
      case rel => exact ⟨B1, L1, d1, rfl, hs1⟩
  case rest =>
    clear hs1
    obtain ⟨A3, L3, c3, rfl, hs3⟩ := hcut
    have y1 := cell_below hs3.below x1
    have y2 := cell_below hs3.below x2
    have y3 := cell_below hs3.below x3
    have hn1I : (n1 : Int) ≤ 9223372036854775807 := by omega
    have hn2I : (n2 : Int) ≤ 9223372036854775807 := by omega
    go_wp2_with fail
    refine (rcount_calls _ n1 (by omega) _ rfl).mono ?_
    rintro e w4 ⟨B4, d4, rfl, ho4, hb4⟩
    have hs4 := hs3.call hb4
    have hr4 := Rd.of_own ho4
    clear hs3 ho4 hb4 y1 y2 y3
    go_wp2_with (first | ((with_reducible refine wpList_at 28 ?_); refine wpList_appB rfl (.tmp 23) (.tmp 27) rfl A3 L3 c3 (pre) rfl hs4 B4 _ d4 (compF n1) rfl hr4 (by omega) ?_; intro A5 L5 c5 w5 hs5 hG5 hX5; have y1 := cell_below hs5.below x1))
    obtain ⟨pre1, hpre1⟩ : ∃ pre1, pre ++ compF n1 = pre1 := ⟨_, rfl⟩
    have hprl1 : pre1.length ≤ 15 := by rw [← hpre1, List.length_append]; omega
    rw [hpre1] at HL hs5
    clear hs4 hr4 hG5 hX5 hpre1 y1
    go_loopw [5, 32] (fun v5 v32 wr => ∃ (k : Nat) (A : Option Addr) (L c : Nat), k ≤ n1 ∧ v32 = .int .i64 k ∧ v5 = .slice A L c ∧ OutSt w0 wr A L c (pre1 ++ (t.ins.take k).flatMap layIn)) (fun _ v _ => n1 - (intOf v).toNat)
    case atStart => exact ⟨0, _, _, _, by omega, rfl, rfl, by simpa using hs5⟩
    case round =>
      clear hs5
      obtain ⟨k, A, L, c, hk, rfl, rfl, hs⟩ := hrel
      by_cases hlt : k < n1
      · have hlt' : (k : Int) < (n1 : Int) := by omega
        have hkk : (0 : Int) ≤ (k : Int) := by omega
        obtain ⟨b, o, x, Aw, nw, cw, hA1, hx, hrg0, hok, hw1, hw2, hwc⟩ := in_at hI0 k hlt
        have hrgA := range_below hs.below hrg0
        have hidl := hok.idl
        have iA := rinfo_in x hidl (.slice Aw nw cw)
        have HQ : Hid (pre1 ++ (t.ins.take (k + 1)).flatMap layIn = pre1 ++ (t.ins.take k).flatMap layIn ++ x.id ++ leF 4 x.out.toNat ++ textF x.script ++ leF 4 x.seq.toNat) := Lib.hid (by rw [take_flat layIn t.ins k x hx]; simp only [layIn, List.append_assoc])
        have hfs := flat_step layIn t.ins k x hx
        rw [HII.out] at hfs
        have hll : (layIn x).length = 32 + 4 + (textF x.script).length + 4 := by simp only [layIn, List.length_append, leF_length, hidl]
        have hssz := (HSI.out x (List.mem_of_getElem? hx)).2.1
        have o0 := hok.o0
        have o1 := hok.o1
        have q0 := hok.s0
        have q1 := hok.s1
        have ho64 : IntKind.u64.wrap x.out = x.out := by rw [IntKind.wrap_u64]; omega
        have hq64 : IntKind.u64.wrap x.seq = x.seq := by rw [IntKind.wrap_u64]; omega
        obtain ⟨base, hbase⟩ : ∃ base, (pre1 ++ (t.ins.take k).flatMap layIn) = base := ⟨_, rfl⟩
        have hbl : base.length + (32 + 4 + (textF x.script).length + 4) ≤ 20000000000 := by rw [← hbase, List.length_append]; omega
        rw [hbase] at hs HQ
        have HX := Lib.hid hx
        subst hA1
        clear hx hrg0 hfs hll hbase
        go_upto_region 8 with (first | ((with_reducible refine wpList_at 35 ?_); refine wpList_load_mid rfl 69 (.tmp 34) rfl b (o + k * 36) rfl (inCells x (.slice Aw nw cw)) _ hrgA hU2 rfl iA ?_) | ((with_reducible refine wpList_atS 7 ?_); refine wpList_store_any rfl 69 (.tmp 7) (.tmp 35) rfl wr.heap.size (inCells x (.slice Aw nw cw)).toArray rfl rfl 69 (inCells in0 (.slice none 0 0)).toArray (heap_alloc_new _ _) (rinfo_inA x hidl _) (in_sizes x hidl _) (in_one x _ rfl) ?_; intro w2 g2 ht2))
        have hb2 : Below wr.heap.size wr w2 := ht2.below ((Below.refl wr.heap.size wr).alloc (Nat.le_refl _) _) (Nat.le_refl _)
        have hs2 := hs.call hb2
        have hbx := heap_lt g2
        have hne2 : some wr.heap.size ≠ (Value.slice A L c).ownBlock := fun e => by have := hs.lt _ e.symm; omega
        have hrid : Rd w2 (some ⟨wr.heap.size, 0, none⟩) 32 (nums .u8 x.id) := by
          have := Rd.of_block g2 32 (o := 0) (by rw [List.size_toArray, inCells_length hidl]; decide)
          rwa [List.drop_zero, List.toList_toArray, inCells_take hidl] at this
        clear ht2 hb2 hrgA hs
        go_upto_region 9 with (first | ((with_reducible refine wpList_at 39 ?_); refine wpList_appB rfl (.tmp 36) (.tmp 38) rfl A L c (base) rfl hs2 _ 32 32 (x.id) rfl hrid (by omega) ?_; intro A8 L8 c8 w8 hs8 hG8 hX8))
        have g8 := heap_grown hG8 g2 hne2
        have hne8 := hX8 _ hbx hne2
        have hbx8 := heap_lt g8
        have s0 : w8.cell? ⟨wr.heap.size, 32, none⟩ = some (.int .u32 x.out) := blk_cell g8 (by rw [List.getElem?_toArray]; exact inCells_at hidl _ 0)
        clear hG8 g2 hne2 hX8 hs2 hrid hbx
        go_wp2_with fail
        refine (reflit_calls w8 x.out.toNat 4 (by omega) (by decide) _ rfl x.out (by omega)).mono ?_
        rintro e w9 hp
        obtain ⟨B9, d9, rfl, hoB, hb9⟩ := hp.fresh
        have hs9 := hs8.call hb9
        have hr9 := Rd.of_own hoB
        have g9 := heap_below hb9 g8
        have hbx9 := heap_lt g9
        clear hp hoB hb9 g8 hs8 s0
        go_upto_region 10 with (first | ((with_reducible refine wpList_at 45 ?_); refine wpList_appB rfl (.tmp 40) (.tmp 44) rfl A8 L8 c8 (base ++ x.id) rfl hs9 B9 _ d9 (leF 4 x.out.toNat) rfl hr9 (by simp only [List.length_append, leF_length]; omega) ?_; intro A10 L10 c10 w10 hs10 hG10 hX10))
        have g10 := heap_grown hG10 g9 hne8
        have hne10 := hX10 _ hbx9 hne8
        have s1 : w10.cell? ⟨wr.heap.size, 33, none⟩ = some (.string x.script) := blk_cell g10 (by rw [List.getElem?_toArray]; exact inCells_at hidl _ 1)
        clear hG10 g9 hne8 hX10 hs9 hr9
        go_wp2_with fail
        refine (rtextw_calls w10 x.script (by omega)).mono ?_
        rintro e w11 ⟨B11, d11, rfl, hoB, hb11⟩
        have hs11 := hs10.call hb11
        have hr11 := Rd.of_own hoB
        have g11 := heap_below hb11 g10
        have hbx11 := heap_lt g11
        clear hoB hb11 g10 hs10 s1
        go_upto_region 11 with (first | ((with_reducible refine wpList_at 50 ?_); refine wpList_appB rfl (.tmp 46) (.tmp 49) rfl A10 L10 c10 (base ++ x.id ++ leF 4 x.out.toNat) rfl hs11 B11 _ d11 (textF x.script) rfl hr11 (by simp only [List.length_append, leF_length]; omega) ?_; intro A12 L12 c12 w12 hs12 hG12 hX12))
        have g12 := heap_grown hG12 g11 hne10
        have s2 : w12.cell? ⟨wr.heap.size, 34, none⟩ = some (.int .u32 x.seq) := blk_cell g12 (by rw [List.getElem?_toArray]; exact inCells_at hidl _ 2)
        clear hG12 g11 hne10 hX12 hs11 hr11
        go_wp2_with fail
        refine (reflit_calls w12 x.seq.toNat 4 (by omega) (by decide) _ rfl x.seq (by omega)).mono ?_
        rintro e w13 hp
        obtain ⟨B13, d13, rfl, hoB, hb13⟩ := hp.fresh
        have hs13 := hs12.call hb13
        have hr13 := Rd.of_own hoB
        clear hp hoB hb13 g12 hs12 s2
        go_upto_region 12 with (first | ((with_reducible refine wpList_at 56 ?_); refine wpList_appB rfl (.tmp 51) (.tmp 55) rfl A12 L12 c12 (base ++ x.id ++ leF 4 x.out.toNat ++ textF x.script) rfl hs13 B13 _ d13 (leF 4 x.seq.toNat) rfl hr13 (by simp only [List.length_append, leF_length]; omega) ?_; intro A14 L14 c14 w14 hs14 hG14 hX14))
        rw [← HQ.out] at hs14
        clear hG14 hX14 hs13 hr13 ho64 hq64
        go_wp2
        go_roundw
        case rel => exact ⟨k + 1, A14, L14, c14, by omega, by go_num, rfl, hs14⟩
        case measure => simp [intOf]; omega
      · have hlt' : ¬ (k : Int) < (n1 : Int) := by omega
        have hfull : t.ins.take k = t.ins := List.take_of_length_le (by have := HI1.out; omega)
        rw [hfull] at hs
        obtain ⟨pre2, hpre2⟩ : ∃ pre2, pre1 ++ t.ins.flatMap layIn = pre2 := ⟨_, rfl⟩
        have hprl2 : pre2.length ≤ 15 + I := by rw [← hpre2, List.length_append, HII.out]; omega
        rw [hpre2] at HL hs
        have y1 := cell_below hs.below x1
        have y2 := cell_below hs.below x2
        clear hfull hpre2 hlt
        clear y1
        go_wp2_with fail
        refine (rcount_calls _ n2 (by omega) _ rfl).mono ?_
        rintro e w14 ⟨B14, d14, rfl, ho14, hb14⟩
        have hs14 := hs.call hb14
        have hr14 := Rd.of_own ho14
        clear hs ho14 hb14 y2
        go_wp2_with (first | ((with_reducible refine wpList_at 63 ?_); refine wpList_appB rfl (.tmp 58) (.tmp 62) rfl A L c (pre2) rfl hs14 B14 _ d14 (compF n2) rfl hr14 (by omega) ?_; intro A15 L15 c15 w15 hs15 hG15 hX15; have y2 := cell_below hs15.below x2))
        obtain ⟨pre3, hpre3⟩ : ∃ pre3, pre2 ++ compF n2 = pre3 := ⟨_, rfl⟩
        have hprl3 : pre3.length ≤ 24 + I := by rw [← hpre3, List.length_append]; omega
        rw [hpre3] at HL hs15
        clear hs14 hr14 hG15 hX15 hpre3 y2
        go_loopw [5, 67] (fun v5 v67 wr => ∃ (k : Nat) (A : Option Addr) (L c : Nat), k ≤ n2 ∧ v67 = .int .i64 k ∧ v5 = .slice A L c ∧ OutSt w0 wr A L c (pre3 ++ (t.outs.take k).flatMap layOut)) (fun _ v _ => n2 - (intOf v).toNat)
        case atStart => exact ⟨0, _, _, _, by omega, rfl, rfl, by simpa using hs15⟩
        case round =>
          clear hs15
          obtain ⟨k, A, L, c, hk, rfl, rfl, hs⟩ := hrel
          by_cases hlt : k < n2
          · have hlt' : (k : Int) < (n2 : Int) := by omega
            have hkk : (0 : Int) ≤ (k : Int) := by omega
            obtain ⟨b, o, x, hA2, hx, hc0, hc1, hok⟩ := out_at hO0 k hlt
            have e0 := cell_below hs.below hc0
            have e1 := cell_below hs.below hc1
            have HQ : Hid (pre3 ++ (t.outs.take (k + 1)).flatMap layOut = pre3 ++ (t.outs.take k).flatMap layOut ++ leF 8 (x.coins % 18446744073709551616).toNat ++ textF x.script) := Lib.hid (by rw [take_flat layOut t.outs k x hx]; simp only [layOut, List.append_assoc])
            have hfs := flat_step layOut t.outs k x hx
            rw [HOO.out] at hfs
            have hll : (layOut x).length = 8 + (textF x.script).length := by simp only [layOut, List.length_append, leF_length]
            have hssz := HSO.out x (List.mem_of_getElem? hx)
            have o0 := hok.c0
            have o1 := hok.c1
            have ho64 : IntKind.u64.wrap x.coins = (((x.coins % 18446744073709551616).toNat : Nat) : Int) := by rw [IntKind.wrap_u64]; omega
            have hcv : (x.coins % 18446744073709551616).toNat < 18446744073709551616 := by omega
            obtain ⟨cv, hcvv⟩ : ∃ cv, (x.coins % 18446744073709551616).toNat = cv := ⟨_, rfl⟩
            rw [hcvv] at ho64 HQ hcv
            obtain ⟨base, hbase⟩ : ∃ base, (pre3 ++ (t.outs.take k).flatMap layOut) = base := ⟨_, rfl⟩
            have hbl : base.length + (8 + (textF x.script).length) ≤ 20000000000 := by rw [← hbase, List.length_append]; omega
            rw [hbase] at hs HQ
            have HX := Lib.hid hx
            have HCV := Lib.hid hcv
            subst hA2
            clear hx hc0 hc1 hfs hll hbase hcvv hcv
            go_upto_region 17 with fail
            have hWa : Below wr.heap.size wr (wr.alloc (.cells #[.int .i64 x.coins, .string x.script] 70)) := (Below.refl _ _).alloc (Nat.le_refl _) _
            refine wp_gen (q := fun wi => OutSt w0 wi A L c base ∧ wi.heap[wr.heap.size]? = some (.cells #[.int .i64 x.coins, .string x.script] 70)) ⟨hs.call hWa, heap_alloc_new _ _⟩ (fun w16 hw => ?_)
            have hltb := hs.lt
            clear hWa hs e0 e1
            obtain ⟨hs16, g16⟩ := hw
            have hbx := heap_lt g16
            have hne16 : some wr.heap.size ≠ (Value.slice A L c).ownBlock := fun e => by have := hltb _ e.symm; omega
            clear hltb
            have s0 : w16.cell? ⟨wr.heap.size, 0, none⟩ = some (.int .i64 x.coins) := blk_cell g16 rfl
            go_wp2_with fail
            refine (reflit_calls w16 cv 8 HCV.out (by decide) _ rfl _ rfl).mono ?_
            rintro e w17 hp
            obtain ⟨B17, d17, rfl, hoB, hb17⟩ := hp.fresh
            have hs17 := hs16.call hb17
            have hr17 := Rd.of_own hoB
            have g17 := heap_below hb17 g16
            have hbx17 := heap_lt g17
            clear hp hoB hb17 g16 hs16 s0 hbx
            go_upto_region 18 with (first | ((with_reducible refine wpList_at 76 ?_); refine wpList_appB rfl (.tmp 71) (.tmp 75) rfl A L c (base) rfl hs17 B17 _ d17 (leF 8 cv) rfl hr17 (by rw [leF_length]; omega) ?_; intro A18 L18 c18 w18 hs18 hG18 hX18))
            have g18 := heap_grown hG18 g17 hne16
            have s1 : w18.cell? ⟨wr.heap.size, 1, none⟩ = some (.string x.script) := blk_cell g18 rfl
            clear hG18 g17 hne16 hX18 hs17 hr17 hbx17
            go_wp2_with fail
            refine (rtextw_calls w18 x.script (by omega)).mono ?_
            rintro e w19 ⟨B19, d19, rfl, hoB, hb19⟩
            have hs19 := hs18.call hb19
            have hr19 := Rd.of_own hoB
            clear hoB hb19 g18 hs18 s1
            go_upto_region 19 with (first | ((with_reducible refine wpList_at 81 ?_); refine wpList_appB rfl (.tmp 77) (.tmp 80) rfl A18 L18 c18 (base ++ leF 8 cv) rfl hs19 B19 _ d19 (textF x.script) rfl hr19 (by simp only [List.length_append, leF_length]; omega) ?_; intro A20 L20 c20 w20 hs20 hG20 hX20))
            rw [← HQ.out] at hs20
            clear hG20 hX20 hs19 hr19 ho64
            go_wp2
            go_roundw
            case rel => exact ⟨k + 1, A20, L20, c20, by omega, by go_num, rfl, hs20⟩
            case measure => simp [intOf]; omega
          · have hlt' : ¬ (k : Int) < (n2 : Int) := by omega
            have hfull : t.outs.take k = t.outs := List.take_of_length_le (by have := HI2.out; omega)
            rw [hfull] at hs
            obtain ⟨pre3b, hpre3b⟩ : ∃ pre3b, pre3 ++ t.outs.flatMap layOut = pre3b := ⟨_, rfl⟩
            have hprl3b : pre3b.length ≤ 24 + I + O := by rw [← hpre3b, List.length_append, HOO.out]; omega
            rw [hpre3b] at HL hs
            obtain ⟨pre4, hpre4⟩ : ∃ pre4, pre3b ++ (if wit then t.ins.flatMap layWit else []) = pre4 := ⟨_, rfl⟩
            have hprl4 : pre4.length ≤ 24 + I + O + (if wit then Wt else 0) := by
              rw [← hpre4, List.length_append]
              cases wit
              · simp only [Bool.false_eq_true, if_false, List.length_nil]; omega
              · simp only [if_true, HWW.out]; omega
            rw [hpre4] at HL
            have HP4 := Lib.hid hpre4
            clear hfull hpre3b hlt hpre4
            go_upto_if 83 with fail
            go_cut [5, 11, 13] from 84 to 109 (fun v5 v11 v13 wd => ∃ A L c, v5 = .slice A L c ∧ OutSt w0 wd A L c pre4)
            case first =>
              cases wit with
              | false =>
                have hE : Hid (pre3b = pre4) := Lib.hid (by rw [← HP4.out]; simp)
                rw [hE.out] at hs
                go_wp2
                go_meet
                case rel => exact ⟨A, L, c, rfl, hs⟩
              | true =>
                have hE : Hid (pre3b ++ t.ins.flatMap layWit = pre4) := Lib.hid (by rw [← HP4.out]; rfl)
                have y1 := cell_below hs.below x1
                have hwl3 : I + O + Wt ≤ 10000000000 := hl3
                go_wp2
                go_loopw [5, 11, 13, 87] (fun v5 v11 v13 v87 wr => ∃ (k : Nat) (A : Option Addr) (L c : Nat), k ≤ n1 ∧ v87 = .int .i64 k ∧ v5 = .slice A L c ∧ OutSt w0 wr A L c (pre3b ++ (t.ins.take k).flatMap layWit)) (fun _ _ _ v _ => n1 - (intOf v).toNat)
                case atStart => exact ⟨0, _, _, _, by omega, rfl, rfl, by simpa using hs⟩
                case round =>
                  clear hs y1
                  obtain ⟨k, A, L, c, hk, rfl, rfl, hs⟩ := hrel
                  by_cases hlt : k < n1
                  · have hlt' : (k : Int) < (n1 : Int) := by omega
                    have hkk : (0 : Int) ≤ (k : Int) := by omega
                    obtain ⟨b, o, x, Aw, nw, cw, hA1, hx, hrg0, hok, hw1, hw2, hwc⟩ := in_at hI0 k hlt
                    have hrgA := range_below hs.below hrg0
                    have hidl := hok.idl
                    have iA := rinfo_in x hidl (.slice Aw nw cw)
                    have hnw := hwc.len
                    have HQ : Hid (pre3b ++ (t.ins.take (k + 1)).flatMap layWit = pre3b ++ (t.ins.take k).flatMap layWit ++ compF nw ++ x.wit.flatMap textF) := Lib.hid (by rw [take_flat layWit t.ins k x hx, ← hnw]; simp only [layWit, List.append_assoc])
                    have hfs := flat_step layWit t.ins k x hx
                    rw [HWW.out] at hfs
                    have hll : (layWit x).length = (compF nw).length + (x.wit.flatMap textF).length := by rw [← hnw]; simp only [layWit, List.length_append]
                    have hwb := (HSI.out x (List.mem_of_getElem? hx)).1
                    have HWZ := Lib.hid (HSI.out x (List.mem_of_getElem? hx)).2.2
                    have hcw := compF_le nw
                    obtain ⟨base, hbase⟩ : ∃ base, (pre3b ++ (t.ins.take k).flatMap layWit) = base := ⟨_, rfl⟩
                    obtain ⟨F, hF⟩ : ∃ F, (x.wit.flatMap textF).length = F := ⟨_, rfl⟩
                    have hbl : base.length + ((compF nw).length + F) ≤ 20000000000 := by rw [← hbase, List.length_append]; omega
                    rw [hbase] at hs HQ
                    have HX := Lib.hid hx
                    have HF := Lib.hid hF
                    have HNW := Lib.hid hnw
                    have hnwb : nw ≤ 100 := by omega
                    unfold maxLen at hw2
                    subst hA1
                    clear hx hrg0 hfs hll hbase hF hnw hwb
                    go_upto_region 24 with (first | ((with_reducible refine wpList_at 90 ?_); refine wpList_load_mid rfl 69 (.tmp 89) rfl b (o + k * 36) rfl (inCells x (.slice Aw nw cw)) _ hrgA hU2 rfl iA ?_) | ((with_reducible refine wpList_atS 11 ?_); refine wpList_store_any rfl 69 (.tmp 11) (.tmp 90) rfl wr.heap.size (inCells x (.slice Aw nw cw)).toArray rfl rfl 69 (inCells in0 (.slice none 0 0)).toArray (heap_alloc_new _ _) (rinfo_inA x hidl _) (in_sizes x hidl _) (in_one x _ rfl) ?_; intro w21 g21 ht21))
                    have hb21 : Below wr.heap.size wr w21 := ht21.below ((Below.refl wr.heap.size wr).alloc (Nat.le_refl _) _) (Nat.le_refl _)
                    have hs21 := hs.call hb21
                    have hbx := heap_lt g21
                    have hne21 : some wr.heap.size ≠ (Value.slice A L c).ownBlock := fun e => by have := hs.lt _ e.symm; omega
                    have s3 : w21.cell? ⟨wr.heap.size, 35, none⟩ = some (.slice Aw nw cw) := blk_cell g21 (by rw [List.getElem?_toArray]; exact inCells_at hidl _ 3)
                    have hnwI : (nw : Int) ≤ 9223372036854775807 := by omega
                    clear ht21 hb21 hrgA hs
                    go_wp2_with fail
                    refine (rcount_calls w21 nw (by omega) _ rfl).mono ?_
                    rintro e w22 ⟨B22, d22, rfl, hoB, hb22⟩
                    have hs22 := hs21.call hb22
                    have hr22 := Rd.of_own hoB
                    have g22 := heap_below hb22 g21
                    have hbx22 := heap_lt g22
                    clear hoB hb22 g21 hs21 s3 hbx
                    go_upto_region 25 with (first | ((with_reducible refine wpList_at 96 ?_); refine wpList_appB rfl (.tmp 91) (.tmp 95) rfl A L c (base) rfl hs22 B22 _ d22 (compF nw) rfl hr22 (by omega) ?_; intro A23 L23 c23 w23 hs23 hG23 hX23))
                    have g23 := heap_grown hG23 g22 hne21
                    have s3 : w23.cell? ⟨wr.heap.size, 35, none⟩ = some (.slice Aw nw cw) := blk_cell g23 (by rw [List.getElem?_toArray]; exact inCells_at hidl _ 3)
                    clear hG23 g22 hne21 hX23 hs22 hr22 hbx22
                    go_wp2
                    go_loopw [5, 13, 100] (fun v5 v13 v100 wz => ∃ (j : Nat) (A : Option Addr) (L c : Nat), j ≤ nw ∧ v100 = .int .i64 j ∧ v5 = .slice A L c ∧ OutSt w0 wz A L c (base ++ compF nw ++ (x.wit.take j).flatMap textF)) (fun _ _ v _ => nw - (intOf v).toNat)
                    case atStart => exact ⟨0, _, _, _, by omega, rfl, rfl, by simpa using hs23⟩
                    case round =>
                      clear hs23 g23 s3
                      obtain ⟨j, A, L, c, hj, rfl, rfl, hs⟩ := hrel
                      by_cases hjl : j < nw
                      · have hjl' : (j : Int) < (nw : Int) := by omega
                        have hjj : (0 : Int) ≤ (j : Int) := by omega
                        obtain ⟨ba, oa, s, hAw, hxs, hcs, hss⟩ := str_at hwc j hjl
                        subst hAw
                        have e1 := cell_below hs.below hcs
                        have HQ2 : Hid (base ++ compF nw ++ (x.wit.take (j + 1)).flatMap textF = base ++ compF nw ++ (x.wit.take j).flatMap textF ++ textF s) := Lib.hid (by rw [take_flat textF x.wit j s hxs]; simp only [List.append_assoc])
                        have hfs := flat_step textF x.wit j s hxs
                        rw [HF.out] at hfs
                        have hsz := HWZ.out s (List.mem_of_getElem? hxs)
                        obtain ⟨base2, hbase2⟩ : ∃ base2, base ++ compF nw ++ (x.wit.take j).flatMap textF = base2 := ⟨_, rfl⟩
                        have hbl2 : base2.length + (textF s).length ≤ 20000000000 := by rw [← hbase2, List.length_append, List.length_append]; omega
                        rw [hbase2] at hs HQ2
                        have HXS := Lib.hid hxs
                        clear hxs hcs hfs hbase2
                        go_wp2_with fail
                        refine (rtextw_calls _ s (by omega)).mono ?_
                        rintro e w24 ⟨B24, d24, rfl, hoB, hb24⟩
                        have hs24 := hs.call hb24
                        have hr24 := Rd.of_own hoB
                        clear hoB hb24 hs e1
                        go_upto_region 29 with (first | ((with_reducible refine wpList_at 107 ?_); refine wpList_appB rfl (.tmp 104) (.tmp 106) rfl A L c (base2) rfl hs24 B24 _ d24 (textF s) rfl hr24 (by omega) ?_; intro A25 L25 c25 w25 hs25 hG25 hX25))
                        rw [← HQ2.out] at hs25
                        clear hG25 hX25 hs24 hr24
                        go_wp2
                        go_roundw
                        case rel => exact ⟨j + 1, A25, L25, c25, by omega, by go_num, rfl, hs25⟩
                        case measure => simp [intOf]; omega
                      · have hjl' : ¬ (j : Int) < (nw : Int) := by omega
                        have hfull : x.wit.take j = x.wit := List.take_of_length_le (by have := HNW.out; omega)
                        rw [hfull, ← HQ.out] at hs
                        clear hfull
                        go_wp2
                        go_roundw
                        case rel => exact ⟨k + 1, A, L, c, by omega, by go_num, rfl, hs⟩
                        case measure => simp [intOf]; omega
                  · have hlt' : ¬ (k : Int) < (n1 : Int) := by omega
                    have hfull : t.ins.take k = t.ins := List.take_of_length_le (by have := HI1.out; omega)
                    rw [hfull, hE.out] at hs
                    clear hfull
                    go_wp2
                    go_meet
                    case rel => exact ⟨A, L, c, rfl, hs⟩
            case rest =>
              clear hs
              obtain ⟨A31, L31, c31, rfl, hs31⟩ := hcut
              have z3 := cell_below hs31.below x3
              have hlk : IntKind.u64.wrap t.lock = t.lock := by rw [IntKind.wrap_u64]; have := hvl.2; omega
              have hvl2 := hvl.2
              have hp4l : pre4.length ≤ 10000001000 := by have := hprl4; omega
              go_wp2_with fail
              refine (reflit_calls _ t.lock.toNat 4 (by omega) (by decide) _ rfl t.lock (by omega)).mono ?_
              rintro e w32 hp
              obtain ⟨B32, d32, rfl, hoB, hb32⟩ := hp.fresh
              have hs32 := hs31.call hb32
              have hr32 := Rd.of_own hoB
              clear hp hoB hb32 hs31 z3
              go_wp2_with (first | ((with_reducible refine wpList_at 115 ?_); refine wpList_appB rfl (.tmp 110) (.tmp 114) rfl A31 L31 c31 (pre4) rfl hs32 B32 _ d32 (leF 4 t.lock.toNat) rfl hr32 (by rw [leF_length]; omega) ?_; intro A33 L33 c33 w33 hs33 hG33 hX33))
              have hLL := own_len hs33.own
              have hP : FreshPost w (layF t wit) (.returned (.slice A33 L33 c33)) w33 := by
                rw [HL.out]
                subst hLL
                exact ⟨A33, c33, rfl, own_mono hs33.own hb0.size, below_then hb0 hb0.size hs33.below⟩
              have HP := Lib.hid hP
              clear hP hs33 hs32 hr32 hG33 hX33 hLL hlk
              go_ret
              exact HP.out
end Go.Proofs.Ytjlkakggmfmfiaa
