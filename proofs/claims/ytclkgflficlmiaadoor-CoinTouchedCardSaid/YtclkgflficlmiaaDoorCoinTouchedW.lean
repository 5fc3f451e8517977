/- CoinTouched: for every row of blocks of pays the law's call returns true and changes nothing: whose history a block turns. -/
import Derived.Test.YtclkgflficlmiaaDoorTouchR
set_option maxRecDepth 100000
set_option linter.unusedVariables false
namespace Go.Proofs.YtclkgflficlmiaaDoor
open Go Go.RowKit
theorem bldT_each (s : Int) : ∀ (pays : List TPay) (i : Nat) (all : List Pt), (∀ p ∈ pays, p.1.length ≤ 6 ∧ p.2.1.length ≤ 6) → ∀ t ∈ (bldT s i pays all).1, t.ins.length ≤ 6 ∧ t.outs.length ≤ 6
  | [], i, all, _ => fun t ht => by cases ht
  | p :: r, i, all, h => fun t ht => by
    obtain ⟨q1, q2⟩ := h p List.mem_cons_self
    rw [bldT] at ht
    rcases List.mem_cons.1 ht with rfl | ht
    · exact ⟨ins_txB s i p all q1, by rw [outs_txB]; exact q2⟩
    · exact bldT_each s r (i + 1) _ (fun x hx => h x (List.mem_cons_of_mem _ hx)) t ht
theorem step_lookV {P : Program} {ops : Array Oper} {o : Oper} {a : Act} {w : World} {K : Act → World → Prop} {Q : Exit → Act → World → Prop} {E : Prop} (hw : Region.wanted o (yielded ops a.tmps) = true) (m x : Operand) (t : TypeId) (c : Bool) (hop : o.op = Op.lookup t m x c) (mv key v : Value) (hm : a.eval m = mv) (hx : a.eval x = key) (hrun : (Instr.lookup t mv key c).run P w = .ok v w)
    (h : K (a.put o.dst v) w) : if Region.wanted o (yielded ops a.tmps) = true then Oper.wp P o a w K Q else E := by
  rw [if_pos hw]
  unfold Oper.wp
  simp [execOp, hop, hm, hx, hrun, Result.andThen]
  exact h
theorem step_mapUpd {P : Program} {ops : Array Oper} {o : Oper} {a : Act} {w w' : World} {K : Act → World → Prop} {Q : Exit → Act → World → Prop} {E : Prop} (hw : Region.wanted o (yielded ops a.tmps) = true) (m x y : Operand) (t : TypeId) (hop : o.op = Op.mapUpdate t m x y) (mv key v : Value) (hm : a.eval m = mv) (hx : a.eval x = key) (hy : a.eval y = v) (hrun : (Instr.mapUpdate t mv key v).run P w = .ok () w')
    (h : K (a.put o.dst undef) w') : if Region.wanted o (yielded ops a.tmps) = true then Oper.wp P o a w K Q else E := by
  rw [if_pos hw]
  unfold Oper.wp
  simp [execOp, hop, hm, hx, hy, hrun, Result.andThen]
  exact h
theorem yieldsIf_fieldH {ops : Array Oper} {S : World → Prop} {op : Oper} {a : Act} (hw : Region.wanted op (yielded ops a.tmps) = true) (x : Operand) (ho : op.op = .field 106 x 1) (z : Int) (sd : List Int) (h : Int) (p : Nat) (hl : sd.length = 32) (hx : a.eval x = .agg (cnCells ⟨z, sd, h, p⟩).toArray) : YieldsIf Tryd.prog ops S op (.agg (nums .u8 sd).toArray) a :=
  .inl ⟨hw, fun w _ => by
    have p1 := part_hash0 (cnCells ⟨z, sd, h, p⟩) 1 sd (by unfold cnCells; rw [List.drop_succ_cons, List.drop_zero, List.take_left' (by rw [nums_length, hl])]) w
    have hr : (Instr.field 106 (.agg (cnCells ⟨z, sd, h, p⟩).toArray) 1).run Tryd.prog w = .ok (.agg (nums .u8 sd).toArray) w := by
      simp [Instr.field, run_underlying Tryd.underlying106, asAgg, p1]
    unfold execOp
    simp only [ho, Sem.run_bind, hx, hr, Result.andThen_ok]
    rfl⟩
theorem scrT_len : ∀ (ts : List TTx), (∀ t ∈ ts, t.outs.length ≤ 6) → (scrT ts).length ≤ 6 * ts.length
  | [], _ => Nat.le_refl _
  | t :: r, h => by
    have h1 := scrT_len r (fun x hx => h x (List.mem_cons_of_mem _ hx))
    have h2 := h t List.mem_cons_self
    have e : scrT (t :: r) = scrO t.outs ++ scrT r := rfl
    rw [e, List.length_append, List.length_cons]
    unfold scrO at *
    rw [List.length_map]
    omega
theorem wpQuiet_any {P : Program} {ops : Array Oper} {rest : List Oper} {o : Oper} {a : Act} {w : World} {Q : Act → Prop} (hgd : Region.wanted o (yielded ops a.tmps) = true) (v : Value) (hrun : ∀ q, (execOp a.eval o).run P (w.drewN q) = .ok (.value v) (w.drewN q))
    (h : wpQuiet P ops (fun w' => ∃ n, w' = w.drewN n) Q rest (a.put o.dst v)) : wpQuiet P ops (fun w' => ∃ n, w' = w.drewN n) Q (o :: rest) a :=
  BigFrame.wpQuiet_want hgd fun K hK => ⟨_, fun W hW => by
    obtain ⟨n, rfl⟩ := hW
    unfold Oper.quietAt
    rw [hrun n]
    exact ⟨rfl, rfl⟩, hK _ h⟩
theorem exec_lookV {P : Program} {o : Oper} {a : Act} {w : World} (m x : Operand) (t : TypeId) (c : Bool) (hop : o.op = Op.lookup t m x c) (mv key v : Value) (hm : a.eval m = mv) (hx : a.eval x = key) (hrun : ∀ q, (Instr.lookup t mv key c).run P (w.drewN q) = .ok v (w.drewN q)) : ∀ q, (execOp a.eval o).run P (w.drewN q) = .ok (.value v) (w.drewN q) := fun q => by
  simp [execOp, hop, hm, hx, hrun q, Result.andThen]
theorem exec_conv {P : Program} {o : Oper} {a : Act} {w : World} (x : Operand) (t u : TypeId) (hop : o.op = Op.convert t u x) (xv v : Value) (hx : a.eval x = xv) (hrun : ∀ q, (convert t u xv).run P (w.drewN q) = .ok v (w.drewN q)) : ∀ q, (execOp a.eval o).run P (w.drewN q) = .ok (.value v) (w.drewN q) := fun q => by
  simp [execOp, hop, hx, hrun q, Result.andThen]
theorem exec_geq {P : Program} {o : Oper} {a : Act} {w : World} (x y : Operand) (t u : TypeId) (hop : o.op = Op.binOp .geq t x y u) (s1 s2 : ByteArray) (hx : a.eval x = .string s1) (hy : a.eval y = .string s2) (hb : Op.bytesLess s1.toList s2.toList = true) : ∀ q, (execOp a.eval o).run P (w.drewN q) = .ok (.value (.bool false)) (w.drewN q) := fun q => by
  have h : (binOp .geq t (.string s1) (.string s2)).run P (w.drewN q) = .ok (.bool false) (w.drewN q) := by
    simp [binOp, Op.stringOp, hb]
  have hg : (eqGuard .geq t x y (.string s1) (.string s2)).run P (w.drewN q) = .ok () (w.drewN q) := rfl
  unfold execOp
  simp only [hop, hx, hy, Sem.run_bind, Sem.run_pure, hg, h, Result.andThen_ok]
set_option maxHeartbeats 16000000 in
theorem coinTouched_core (w : World) (hT : Tabs w) (hN : Now w) (S : Nat → Prop) (A : Option Addr) (n c : Nat) (bs : List (List TPay)) (hnc : n ≤ c) (hcm : c ≤ maxLen) (hC : blksK.C S w A n bs) :
    Calls Tryd.prog 14 #[.slice A n c] w fun e w' => e = .returned (.bool true) ∧ Below w.heap.size w w' := by
  have hUB := Tryd.underlying49
  have hUD := Tryd.underlying86
  have hUS := Tryd.underlying100
  have hUT := Tryd.underlying54
  have hUU := Tryd.underlying108
  have hUK := Tryd.underlying110
  have hUP := Tryd.underlying64
  have hUC := Tryd.underlying106
  have hUH := Tryd.underlying24
  have hcm' := hcm
  unfold maxLen at hcm'
  have hnI : (n : Int) ≤ 9223372036854775807 := by omega
  have HL := Lib.hid hC.len
  go_enter Tryd.func14, Tryd.ntmps14
  go_wp2_with fail
  refine (head19_calls w hT hN).mono ?_
  rintro e w1 ⟨rfl, hb1⟩
  go_wp2_with fail
  refine (big19_calls w1 S A n c bs hnc hcm (RK.C.below hC hb1)).mono ?_
  rintro e w2 ⟨bb, rfl, hsm, hb2⟩
  have hB2 := below_then hb1 hb1.size hb2
  clear hb1 hb2
  cases bb with
  | true =>
    clear hsm
    go_wp2
    go_ret
    exact ⟨rfl, hB2⟩
  | false =>
    have HBO : Hid (BlksOk bs) := Lib.hid (hsm rfl)
    have hn8 : n ≤ 8 := by have := HBO.out.1; have := HL.out; omega
    clear hsm
    have hm0 : SetV (w2.alloc (.map #[] 0)) w2.heap.size [] := MapV.made w2
    have hbm : Below w.heap.size w (w2.alloc (.map #[] 0)) := hB2.alloc hB2.size _
    have km := run_makeMap (P := Tryd.prog) 100 w2
    go_upto_region 6 with fail
    clear km
    refine wp_gen (q := fun wi => SetV wi w2.heap.size [] ∧ Below w.heap.size w wi) ⟨hm0, hbm⟩ (fun w3 hw => ?_)
    clear hm0 hbm
    obtain ⟨hM3, hB3⟩ := hw
    go_upto_region 7 with fail
    refine wp_gen (q := fun wi => SetV wi w2.heap.size [] ∧ Below w.heap.size w wi) ⟨hM3.below ((Below.refl _ _).alloc (Nat.le_refl _) _), hB3.alloc hB3.size _⟩ (fun w4 hw => ?_)
    clear hM3 hB3
    obtain ⟨hM4, hB4⟩ := hw
    have HG0 : Hid (SetG 0 []) := Lib.hid SetG.nil
    have hO4 : ptK.C (fun _ => True) w4 (some ⟨w3.heap.size, 0, none⟩) 0 [] := RK.C.nil _ _ _ _
    go_wp2
    go_loopw [3, 4, 29] (fun v3 v4 v29 wr => ∃ (k b : Nat) (m : List (Pt × Cn)) (Ao : Option Addr) (no co : Nat) (outs : List Pt), k ≤ n ∧ v29 = .int .i64 k ∧ v3 = .map (some b) ∧ v4 = .slice Ao no co ∧ no ≤ 36 * k ∧ Hid (SetG k m) ∧ SetV wr b m ∧ ptK.C (fun _ => True) wr Ao no outs ∧ Below w.heap.size w wr) (fun _ _ v _ => n - (intOf v).toNat)
    case atStart => exact ⟨0, w2.heap.size, [], some ⟨w3.heap.size, 0, none⟩, 0, 0, [], by omega, rfl, rfl, rfl, by omega, HG0, hM4, hO4, hB4⟩
    case round =>
      clear hB2 hM4 hB4 HG0 hO4
      obtain ⟨k, b, m, Ao, no, co, outs, hk, rfl, rfl, rfl, hno, HG, hM, hO, hB⟩ := hrel
      rename World => wo
      by_cases hlt : k < n
      · have hlt' : (k : Int) < (n : Int) := by omega
        have hkk : (0 : Int) ≤ (k : Int) := by omega
        obtain ⟨b1, o1, cs, ps, hA, hx, ⟨P1, np, pc, rfl, hpc, hpm, hP⟩, hcx⟩ := (RK.C.below hC hB).get k hlt
        subst hA
        have hcl : wo.cell? ⟨b1, o1 + k, none⟩ = some (.slice P1 np pc) := by
          have := hcx 0 _ (show [Value.slice P1 np pc][0]? = some (.slice P1 np pc) from rfl)
          rwa [show (RK.slice payK).sz = 1 from rfl, Nat.mul_one, Nat.add_zero] at this
        have hpo : PaysOk ps := HBO.out.2 ps (List.mem_of_getElem? hx)
        have HSM := Lib.hid (bldT_sums (k : Int) ps 0 outs hpo.2)
        have HEA := Lib.hid (bldT_each (k : Int) ps 0 outs hpo.2)
        have HOL := Lib.hid hO.len
        have HPO := Lib.hid hpo
        have hBld := build_calls wo (hT.below hB) (hN.below hB) S (fun _ => True) P1 np pc ps hpc hpm hP hpo Ao no co outs (by omega) hO (k : Int) (k : Int) (cs_u32wrap k (by omega)) (by omega) (by omega)
        obtain ⟨bt, hbt⟩ : ∃ bt, bldT (k : Int) 0 ps outs = bt := ⟨_, rfl⟩
        rw [hbt] at hBld HSM HEA
        obtain ⟨ts, nx⟩ := bt
        clear hbt hx hcx hpo hP
        go_wp2_with fail
        refine hBld.mono ?_
        rintro e w5 ⟨hb5, At, ct, Al, cl, rfl, hle, hct, hTx, hPt⟩
        obtain ⟨hh, hhE⟩ : ∃ hh, bldH (k : Int) ts = hh := ⟨_, rfl⟩
        have hok : hh.Ok := by rw [← hhE]; exact bldH_ok (by omega) (by omega) _
        simp only [hhE]
        simp only at hle hTx hPt HSM HEA
        obtain ⟨nt, hnt⟩ : ∃ nt, ts.length = nt := ⟨_, rfl⟩
        obtain ⟨nl, hnl⟩ : ∃ nl, nx.length = nl := ⟨_, rfl⟩
        rw [hnt] at hle hTx ⊢
        rw [hnl] at hPt ⊢
        have hnt6 : nt ≤ 6 := by have := HSM.out.2.2.2.1; have := HPO.out.1; omega
        have hnl6 : nl ≤ 36 * (k + 1) := by have := HSM.out.2.2.1; have := HPO.out.1; have := HOL.out; omega
        have hiB := info_blkA hok At nt ct
        have hBw5 := below_then hB hB.size hb5
        have hM5 := hM.below hb5
        have hOo5 := RK.C.below hO hb5
        have HNT := Lib.hid hnt
        have HNL := Lib.hid hnl
        clear hBld hhE hcl hb5 hM hO hnt hnl
        go_upto_region 11 with (first
          | ((with_reducible refine wpList_atS 7 ?_); refine wpList_store_any rfl 49 (.tmp 7) (.tmp 39) rfl w5.heap.size (blkCells hh At nt ct).toArray rfl rfl 49 (blkCells hd0 none 0 0).toArray (heap_alloc_new _ _) hiB (by rw [List.size_toArray, List.size_toArray, blkCells_length hok, blkCells_length hd0_ok]) (blkCells_all hh At nt ct) ?_; intro w6 gB6 ht6))
        have hb6 : Below w5.heap.size w5 w6 := ht6.below ((Below.refl _ _).alloc (Nat.le_refl _) _) (Nat.le_refl _)
        have hB6 := below_then hBw5 hBw5.size hb6
        have hTx6 := RK.C.below hTx hb6
        have hO6 : ptK.C (fun _ => True) w6 Al nl nx := RK.C.below (RK.Own.C_ (S' := fun _ => True) hPt (fun _ _ => trivial) (fun _ _ => trivial)) hb6
        have hM6 := hM5.below hb6
        have hOo6 := RK.C.below hOo5 hb6
        have hlB := heap_lt gB6
        clear ht6 hTx hPt hM5 hb6 hBw5 hOo5
        have hPl := plan_calls w6 (hT.below hB6) (hN.below hB6) (setV b) 0 m (fun w => SetV w b m) (set_view HG.out.ok HG.out.top) hM6 (fun q => wo.heap.size ≤ q) hh hok At nt ct ts hle hct (by omega) hTx6 (k : Int)
        have HPS := Lib.hid (fun d (h : planF hh ts (k : Int) 0 m = .ok d) => plan_sum (by omega) (by omega) h)
        have HSC := Lib.hid (fun d (h : planF hh ts (k : Int) 0 m = .ok d) => plan_scr h)
        have HPN := Lib.hid (fun d (h : planF hh ts (k : Int) 0 m = .ok d) => plan_ne (by omega) (by omega) h)
        have HPK := Lib.hid (fun d (h : planF hh ts (k : Int) 0 m = .ok d) => plan_ok hM6.apart (by omega) (by omega) h)
        have HPE := Lib.hid (fun x (h : planF hh ts (k : Int) 0 m = .error x) => plan_err hM6.apart (by omega) (by omega) h)
        obtain ⟨pr, hpr⟩ : ∃ pr, planF hh ts (k : Int) 0 m = pr := ⟨_, rfl⟩
        rw [hpr] at hPl HPS HPK HPE HPN HSC
        clear hpr
        go_wp2_with (first
          | ((with_reducible refine wpList_at 42 ?_); refine wpList_load_row rfl 49 (.tmp 7) rfl w5.heap.size rfl 49 _ _ _ gB6 hUB rfl hiB ?_))
        refine hPl.mono ?_
        clear hPl
        rintro e w7 ⟨hb7, hpp⟩
        have hB7 := below_then hB6 hB6.size hb7
        have gB7 := heap_below hb7 gB6
        have hM7 := hM6.below hb7
        have hOo7 := RK.C.below hOo6 hb7
        clear gB6 hB6 hM6 hOo6
        match pr, hpp with
        | .error x, hpp =>
          obtain rfl : e = _ := hpp
          have hx0 : (x != 0) = true := by rw [bne_iff_ne]; exact HPE.out x rfl
          have HG' := Lib.hid HG.out.mono
          clear HPE HPS HPK HPN HSC
          go_wp2_with (first
            | ((with_reducible refine wpList_atS 9 ?_); refine wpList_store_any rfl 86 (.tmp 9) (.tmp 47) rfl w7.heap.size dz rfl rfl 86 dz (heap_alloc_new _ _) (info_d _ _ _ _) rfl (one_d _ _ _ _ _ _ _ _ _ _) ?_; intro w8 gE8 ht8))
          have hb8 : Below w7.heap.size w7 w8 := ht8.below ((Below.refl _ _).alloc (Nat.le_refl _) _) (Nat.le_refl _)
          have hM8 := hM7.below hb8
          have hO8 := RK.C.below hOo7 hb8
          have hB8 := below_then hB7 hB7.size hb8
          clear hM7 hOo7 hB7 hb8 ht8 gE8 gB7
          go_roundw
          case rel => exact ⟨k + 1, b, m, Ao, no, co, outs, by omega, by go_num, rfl, rfl, by omega, HG', hM8, hO8, hB8⟩
          case measure => simp [intOf]; omega
        | .ok d, hpp =>
          obtain ⟨lw, hPK⟩ := HPK.out d rfl
          have hPS := HPS.out d rfl
          obtain ⟨t0, tr, hts⟩ := HPN.out d rfl
          have HTS := Lib.hid hts
          clear hts
          obtain ⟨ids, us, ms, fe⟩ := d
          obtain ⟨A1, c1, A2, c2, A3, c3, rfl, -, hU, hK⟩ := hpp
          simp only at hU hK
          simp only
          have hus : us.length ≤ 36 := by have := hPS.uses; have := HSM.out.1; have := HPO.out.1; simp only at *; omega
          have hms : ms.length ≤ 36 := by have := hPS.makes; have := HSM.out.2.1; have := HPO.out.1; simp only at *; omega
          have HMC : Hid (∀ x ∈ ms, 0 ≤ x.2.coins ∧ x.2.coins ≤ 65535) := Lib.hid (fun x hx => by
            obtain ⟨t, ht, o, ho, e⟩ := hPS.mem x hx
            rw [e]
            exact HSM.out.2.2.2.2 t ht o ho)
          have HUC : Hid (∀ u ∈ us, 0 ≤ u.coin.coins ∧ u.coin.coins ≤ 65535) := Lib.hid (fun u hu => by
            have h1 := lookup_mem (hPK.coin u hu)
            rcases List.mem_append.1 h1 with h1 | h1
            · exact HG.out.rng _ h1
            · exact HMC.out _ h1)
          have HSUM := Lib.hid hPS.sum
          simp only at HSUM
          have HOKC := Lib.hid hPS.okc
          have HPKK := Lib.hid hPK
          obtain ⟨n2, hn2⟩ : ∃ n2, us.length = n2 := ⟨_, rfl⟩
          obtain ⟨n3, hn3⟩ : ∃ n3, ms.length = n3 := ⟨_, rfl⟩
          obtain ⟨ni, hni⟩ : ∃ ni, ids.length = ni := ⟨_, rfl⟩
          have HSC2 : Hid (scrM ms = scrT ts) := Lib.hid (HSC.out _ rfl)
          rw [hn2] at hU hus ⊢
          rw [hn3] at hK hms ⊢
          rw [hni]
          have HN2 := Lib.hid hn2
          have HN3 := Lib.hid hn3
          clear hPK hPS HPE HPS HPK HPN hn2 hn3 hni HSUM HOKC HUC HTS HSC
          go_upto_region 12 with (first
            | ((with_reducible refine wpList_atS 9 ?_); refine wpList_store_any rfl 86 (.tmp 9) (.tmp 47) rfl w7.heap.size #[.slice A1 ni c1, .slice A2 n2 c2, .slice A3 n3 c3, .int .i64 fe] rfl rfl 86 dz (heap_alloc_new _ _) (info_d _ _ _ _) rfl (one_d _ _ _ _ _ _ _ _ _ _) ?_; intro w8 gD8 ht8))
          have hb8 : Below w7.heap.size w7 w8 := ht8.below ((Below.refl _ _).alloc (Nat.le_refl _) _) (Nat.le_refl _)
          have hM8 := hM7.below hb8
          have hO8 : ptK.C (fun _ => True) w8 Al nl nx := RK.C.below (RK.C.below hO6 hb7) hb8
          have hTx8 := RK.C.below (RK.C.below hTx6 hb7) hb8
          have hU8 : usK.C (fun _ => True) w8 A2 n2 us := RK.C.below (RK.Own.C_ (S' := fun _ => True) hU (fun _ h => h.elim) (fun _ _ => trivial)) hb8
          have hK8 : mkK.C (fun _ => True) w8 A3 n3 ms := RK.C.below (RK.Own.C_ (S' := fun _ => True) hK (fun _ h => h.elim) (fun _ _ => trivial)) hb8
          have hB8 := below_then hB7 hB7.size hb8
          have gB8 := heap_below hb8 gB7
          have hlD := heap_lt gD8
          have tU8 : w8.cell? ⟨w7.heap.size, 1, none⟩ = some (.slice A2 n2 c2) := blk_cell gD8 rfl
          have tS8 : w8.cell? ⟨w5.heap.size, 68, none⟩ = some (.slice At nt ct) := blk_cell gB8 (by rw [List.getElem?_toArray]; exact blkCells_at hok At nt ct)
          clear hM7 hO6 hTx6 hU hK hB7 hb7 hb8 ht8 gB7 hOo7
          have hmw0 : MapV Dig (w8.alloc (.map #[] 0)) w8.heap.size hkv Value.bool ([] : List (List Int × Bool)) := MapV.made w8
          have hbw0 : Below w8.heap.size w8 (w8.alloc (.map #[] 0)) := (Below.refl _ _).alloc (Nat.le_refl _) _
          have km := run_makeMap (P := Tryd.prog) 114 w8
          go_upto_region 14 with fail
          clear km
          refine wp_gen (q := fun wi => MapV Dig wi w8.heap.size hkv Value.bool ([] : List (List Int × Bool)) ∧ Below w8.heap.size w8 wi) ⟨hmw0, hbw0⟩ (fun w9 hw => ?_)
          clear hmw0 hbw0
          obtain ⟨hW9, hb89⟩ := hw
          have hn2I : (n2 : Int) ≤ 36 := by omega
          have hn3I : (n3 : Int) ≤ 36 := by omega
          have hml : m.length ≤ 288 := by have := HG.out.len; omega
          have HNOD := Lib.hid hM8.apart
          have tU9 := cell_below hb89 tU8
          have hW0 : MapV Dig w9 w8.heap.size hkv Value.bool (putB [] ((scrU us).take 0)) := hW9
          clear tU8 hW9
          go_wp2
          go_loopw [55] (fun v55 wr => ∃ i : Nat, i ≤ n2 ∧ v55 = .int .i64 i ∧ MapV Dig wr w8.heap.size hkv Value.bool (putB [] ((scrU us).take i)) ∧ Below w8.heap.size w8 wr) (fun v _ => n2 - (intOf v).toNat)
          case atStart => exact ⟨0, by omega, rfl, hW0, hb89⟩
          case round =>
            clear hW0 hb89 tU9
            obtain ⟨i, hi, rfl, hW, hb⟩ := hrel
            by_cases hil : i < n2
            · have hil' : (i : Int) < (n2 : Int) := by omega
              have hii : (0 : Int) ≤ (i : Int) := by omega
              obtain ⟨b3, o3, cs, u, hA, hx, ⟨rfl, huk⟩, hc⟩ := (RK.C.below hU8 hb).get i hil
              have hr : wr.rangeAt b3 (o3 + i * 70) (usCells u) := hc
              have i1 := info_us huk
              have i2 := info_usA huk
              have ip := info_pt huk.1.1.1 u.pt.2
              have HUL : Hid (∀ o, m.Perm o → (putAll o ms).lookup u.pt = some u.coin) := Lib.hid (fun o hp => use_look HNOD.out hp HPKK.out (List.mem_of_getElem? hx))
              have HTK := Lib.hid (scrU_take hx)
              have hroom : (putB [] ((scrU us).take i)).length < maxLen := by
                have h1 := putB_length ((scrU us).take i) []
                rw [List.length_take] at h1
                unfold maxLen
                simp only [List.length_nil] at h1
                omega
              subst hA
              clear hc hx
              obtain ⟨up, ui, ⟨pid, pout⟩, cc⟩ := u
              simp only at hr i1 i2 ip HUL HTK
              go_upto_region 17 with (first
                | ((with_reducible refine wpList_at 58 ?_); refine wpList_load_mid rfl 108 (.tmp 57) rfl b3 (o3 + i * 70) rfl (usCells ⟨up, ui, (pid, pout), cc⟩) _ hr hUU rfl i1 ?_)
                | ((with_reducible refine wpList_atS 13 ?_); refine wpList_store_any rfl 108 (.tmp 13) (.tmp 58) rfl wr.heap.size (usCells ⟨up, ui, (pid, pout), cc⟩).toArray rfl rfl 108 (usCells us0).toArray (heap_alloc_new _ _) i2 (size_us us0_ok huk) (usCells_all _) ?_; intro wx gx htx))
              have hbx : Below wr.heap.size wr wx := htx.below ((Below.refl _ _).alloc (Nat.le_refl _) _) (Nat.le_refl _)
              have hbB := below_then hb hb.size hbx
              have hWx := hW.below hbx
              have rP : wx.drew.rangeAt wr.heap.size 2 (ptL pid pout) := by have := usCells_pt (range_block (xs := usCells ⟨up, ui, (pid, pout), cc⟩) gx); rwa [Nat.zero_add] at this
              have tM : wx.drew.cell? ⟨w7.heap.size, 2, none⟩ = some (.slice A3 n3 c3) := blk_cell (heap_below hbB gD8) rfl
              have hMx : SetV wx.drew b m := hM8.below hbB.drew
              have hKx : mkK.C (fun _ => True) wx.drew A3 n3 ms := RK.C.below hK8 hbB.drew
              have hWd : MapV Dig wx.drew w8.heap.size hkv Value.bool (putB [] ((scrU us).take i)) := hWx
              have hBd : Below w8.heap.size w8 wx.drew := hbB.drew
              have hwl := hW.lt
              have hlx := hbx.size
              have hds := huk.2.sc
              have hgu := heap_lt gx
              clear gx htx hbx hb hr hW hbB hWx
              refine wp_region_noPanic ?_
              refine wp_region_held_drew (S := fun w' => w'.cell? ⟨w7.heap.size, 2, none⟩ = some (.slice A3 n3 c3) ∧ w'.rangeAt wr.heap.size 2 (ptL pid pout)) (by kernel_rfl) ⟨tM, rP⟩ (fun hHeld => ?_)
              refine wpAnyH_take (i := 0) (oi := ⟨some 59, _, _, _, _, _⟩) (v := ?_) rfl (by kernel_rfl) (by kernel_rfl) (by kernel_rfl) (fun _ _ _ h => h) (Or.inl ⟨by rfl, ?_⟩) (by assumption) ?_
              rotate_left 1
              · intro w hSw; (try dsimp only at hSw); go_simp; try with_reducible rfl
              simp only [Act.put, List.setIfInBounds_toArray, List.set_cons_zero, List.set_cons_succ]
              refine wpAnyH_take (i := 1) (oi := ⟨some 60, _, _, _, _, _⟩) (v := ?_) rfl (by kernel_rfl) (by kernel_rfl) (by kernel_rfl) (fun _ _ _ h => h) (Or.inl ⟨by rfl, ?_⟩) (by assumption) ?_
              rotate_left 1
              · intro w hSw; (try dsimp only at hSw); go_simp; try with_reducible rfl
              simp only [Act.put, List.setIfInBounds_toArray, List.set_cons_zero, List.set_cons_succ]
              refine wpAnyH_take (i := 2) (oi := ⟨some 61, _, _, _, _, _⟩) (v := ?_) rfl (by kernel_rfl) (by kernel_rfl) (by kernel_rfl) (fun _ _ _ h => h) (Or.inl ⟨by rfl, ?_⟩) (by assumption) ?_
              rotate_left 1
              · intro w hSw; (try dsimp only at hSw); go_simp; try with_reducible rfl
              simp only [Act.put, List.setIfInBounds_toArray, List.set_cons_zero, List.set_cons_succ]
              refine wpAnyH_take (i := 3) (oi := ⟨some 62, _, _, _, _, _⟩) (v := ?_) rfl (by kernel_rfl) (by kernel_rfl) (by kernel_rfl) (fun _ _ _ h => h) (Or.inl ⟨by rfl, ?_⟩) (by assumption) ?_
              rotate_left 1
              · intro w hSw; (try dsimp only at hSw); go_simp; try with_reducible rfl
              simp only [Act.put, List.setIfInBounds_toArray, List.set_cons_zero, List.set_cons_succ]
              refine wpAnyH_take (i := 4) (oi := ⟨some 63, _, _, _, _, _⟩) (v := .agg #[.slice none 0 0, .slice none 0 0, .slice A3 n3 c3, .int .i64 0]) rfl (by kernel_rfl) (by kernel_rfl) (by kernel_rfl) (fun _ _ _ h => h) (yieldsIf_build (by rfl) 86 #[(2, .tmp 62)] rfl [(2, .slice A3 n3 c3)] rfl #[.slice none 0 0, .slice none 0 0, .slice A3 n3 c3, .int .i64 0] (by rfl)) (by assumption) ?_
              simp only [Act.put, List.setIfInBounds_toArray, List.set_cons_zero, List.set_cons_succ]
              refine wpAnyH_take (i := 6) (oi := ⟨some 65, _, _, _, _, _⟩) (v := ?_) rfl (by kernel_rfl) (by kernel_rfl) (by kernel_rfl) (fun _ _ _ h => h) (Or.inl ⟨by rfl, ?_⟩) (by assumption) ?_
              rotate_left 1
              · intro w hSw; (try dsimp only at hSw); go_simp; try with_reducible rfl
              simp only [Act.put, List.setIfInBounds_toArray, List.set_cons_zero, List.set_cons_succ]
              refine wpAnyH_take (i := 7) (oi := ⟨some 66, _, _, _, _, _⟩) rfl (by kernel_rfl) (by kernel_rfl) (by kernel_rfl) (fun _ _ _ h => h) (yieldsIf_load_mid (by rfl) _ _ rfl _ _ rfl (ptL pid pout) _ (fun _ h => h.2) hUP rfl ip) (by assumption) ?_
              simp only [Act.put, List.setIfInBounds_toArray, List.set_cons_zero, List.set_cons_succ]
              refine wpAnyH_ready (rs := [5]) (by kernel_rfl) (by simp) ?_
              refine AllReadyH.cons (o := ⟨some 64, _, _, _, _, _⟩) rfl (fun K hK => ?_) AllReadyH.nil
              go_simp
              refine (apply_calls _ (fun _ => True) (fun _ => True) b m hMx HG.out.ok (by omega) (.slice none 0 0) none A3 0 0 n3 c3 0 [] ms (by omega) (RK.C.nil _ _ _ _) (by omega) hKx).mono ?_
              rintro e w5' ⟨b', o', rfl, hb'0, hPo, hMs, hbz⟩
              have hlk := MapV.look (P := Tryd.prog) false keyPt hUS (zero_cn w5') hMs (a := (pid, pout)) huk.1
              have hrun : (Instr.lookup 100 (.map (some b')) (.agg (ptL pid pout).toArray) false).run Tryd.prog w5' = .ok (.agg (cnCells cc).toArray) w5' := by
                refine Eq.trans hlk ?_
                rw [show (delAll (putAll o' ms) []).lookup (pid, pout) = some cc from HUL.out o' hPo]
                rfl
              have hW5 := hWd.below hbz
              have hB5' := below_then hBd hBd.size hbz
              refine hK.out _ _ ⟨cell_below hbz hHeld.1, range_below hbz hHeld.2⟩ (fun hHeld' => ?_)
              clear hHeld
              have hHeld := hHeld'
              clear hHeld' hlk
              clear hK K
              try (simp only [Act.put, List.setIfInBounds_toArray, List.set_cons_zero, List.set_cons_succ])
              refine wpAnyH_ready (rs := [8]) (by kernel_rfl) (by simp) ?_
              refine AllReadyH.cons (o := ⟨some 67, _, _, _, _, _⟩) rfl (fun K hK => ?_) AllReadyH.nil
              refine step_lookV (by rfl) (.tmp 64) (.tmp 66) 100 false rfl (.map (some b')) (.agg (ptL pid pout).toArray) _ rfl rfl hrun ?_
              refine hK.out _ _ hHeld (fun hHeld' => ?_)
              clear hHeld hrun
              have hHeld := hHeld'
              clear hHeld'
              clear hK K
              try (simp only [Act.put, List.setIfInBounds_toArray, List.set_cons_zero, List.set_cons_succ])
              refine wpAnyH_take (i := 9) (oi := ⟨some 68, _, _, _, _, _⟩) (v := .agg (nums .u8 cc.script).toArray) rfl (by kernel_rfl) (by kernel_rfl) (by kernel_rfl) (fun _ _ _ h => h) (yieldsIf_fieldH (by rfl) (.tmp 67) rfl cc.coins cc.script cc.height cc.pos hds.1 rfl) (by assumption) ?_
              simp only [Act.put, List.setIfInBounds_toArray, List.set_cons_zero, List.set_cons_succ]
              refine wpAnyH_ready (rs := [10]) (by kernel_rfl) (by simp) ?_
              refine AllReadyH.cons (o := ⟨none, _, _, _, _, _⟩) rfl (fun K hK => ?_) AllReadyH.nil
              obtain ⟨w7', hput, hW7, hT7⟩ := MapV.put (P := Tryd.prog) keyHash Tryd.underlying114 hW5 hroom hds true
              have hput' : (Instr.mapUpdate 114 (.map (some w8.heap.size)) (.agg (nums .u8 cc.script).toArray) (.bool true)).run Tryd.prog w5' = .ok () w7' := hput
              rw [← putB_snoc, HTK.out] at hW7
              have hB7' := hT7.below hB5' (Nat.le_refl _)
              refine step_mapUpd (by rfl) (.tmp 59) (.tmp 68) (.const (.bool true)) 114 rfl (.map (some w8.heap.size)) (.agg (nums .u8 cc.script).toArray) (.bool true) rfl rfl rfl hput' ?_
              refine hK.out _ _ ⟨(cell_move (hT7.block _ (by omega))).trans hHeld.1, fun j v hv => (cell_move (hT7.block _ (by omega))).trans (hHeld.2 j v hv)⟩ (fun hHeld' => ?_)
              clear hHeld hput hput' hT7 hW5 hB5' hMs
              clear hK K
              try (simp only [Act.put])
              refine wpAnyH_done (by kernel_rfl) ?_ _
              refine NoPanic.normal ?_
              clear hMx hKx hWd hBd rP tM
              go_wp2
              go_roundw
              case rel => exact ⟨i + 1, by omega, by go_num, hW7, hB7'⟩
              case measure => simp [intOf]; omega
            · have hil' : ¬ (i : Int) < (n2 : Int) := by omega
              obtain rfl : n2 = i := by omega
              rename World => wp
              rw [List.take_of_length_le (by unfold scrU; rw [List.length_map, HN2.out]; omega)] at hW
              have hWp : MapV Dig wp w8.heap.size hkv Value.bool (putB [] (scrU us ++ scrT (ts.take 0))) := by rw [List.take_zero, show scrT [] = [] from rfl, List.append_nil]; exact hW
              have tSp := cell_below hb tS8
              have hntI : (nt : Int) ≤ 6 := by omega
              clear hW
              go_wp2
              go_loopw [73] (fun v73 wr => ∃ i : Nat, i ≤ nt ∧ v73 = .int .i64 i ∧ MapV Dig wr w8.heap.size hkv Value.bool (putB [] (scrU us ++ scrT (ts.take i))) ∧ Below w8.heap.size w8 wr) (fun v _ => nt - (intOf v).toNat)
              case atStart => exact ⟨0, by omega, rfl, hWp, hb⟩
              case round =>
                clear hWp hb tSp
                obtain ⟨i, hi, rfl, hW, hb⟩ := hrel
                by_cases hil : i < nt
                · have hil' : (i : Int) < (nt : Int) := by omega
                  have hii : (0 : Int) ≤ (i : Int) := by omega
                  obtain ⟨bt, ot, cst, t, hAt, hx, hKt, hct4⟩ := hTx8.get i hil
                  obtain ⟨Y1, yc1, Y2, yc2, rfl, y1, y2, y3, y4, _, hOu⟩ := txK_form hKt
                  have hry : wr.rangeAt bt (ot + i * 4) [.int .i32 t.ver, .slice Y1 t.ins.length yc1, .slice Y2 t.outs.length yc2, .int .u32 t.lock] := range_below hb hct4
                  have hi4 := info_tx4 (.int .i32 t.ver) (.slice Y1 t.ins.length yc1) (.slice Y2 t.outs.length yc2) (.int .u32 t.lock)
                  have ho6 := (HEA.out t (List.mem_of_getElem? hx)).2
                  have HTT : Hid (scrT (ts.take (i + 1)) = scrT (ts.take i) ++ scrO t.outs) := Lib.hid (by rw [List.take_add_one, hx]; unfold scrT; rw [List.flatMap_append]; simp)
                  have HTL : Hid ((scrT (ts.take i)).length ≤ 36) := Lib.hid (by
                    have h1 := scrT_len (ts.take i) (fun t ht => (HEA.out t (List.mem_of_mem_take ht)).2)
                    rw [List.length_take] at h1
                    omega)
                  obtain ⟨m2, hm2⟩ : ∃ m2, t.outs.length = m2 := ⟨_, rfl⟩
                  obtain ⟨m1, hm1⟩ : ∃ m1, t.ins.length = m1 := ⟨_, rfl⟩
                  rw [hm2] at hry hi4 ho6 hOu
                  rw [hm1] at hry hi4
                  have HM2 := Lib.hid hm2
                  subst hAt
                  clear hx hKt hct4 hm1 hm2
                  go_upto_region 22 with (first
                    | ((with_reducible refine wpList_at 76 ?_); refine wpList_load_mid rfl 54 (.tmp 75) rfl bt (ot + i * 4) rfl [.int .i32 t.ver, .slice Y1 m1 yc1, .slice Y2 m2 yc2, .int .u32 t.lock] _ hry hUT rfl hi4 ?_))
                  refine wp_gen (q := fun wi => wi.heap[wr.heap.size]? = some (.cells [.int .i32 t.ver, .slice Y1 m1 yc1, .slice Y2 m2 yc2, .int .u32 t.lock].toArray 54) ∧ Below wr.heap.size wr wi) ⟨heap_alloc_new _ _, (Below.refl _ _).alloc (Nat.le_refl _) _⟩ (fun wt hw => ?_)
                  obtain ⟨gT, hbt⟩ := hw
                  have hBt := below_then hb hb.size hbt
                  have tO : wt.cell? ⟨wr.heap.size, 2, none⟩ = some (.slice Y2 m2 yc2) := blk_cell gT rfl
                  have hWt : MapV Dig wt w8.heap.size hkv Value.bool (putB [] (scrU us ++ scrT (ts.take i) ++ (scrO t.outs).take 0)) := by rw [List.take_zero, List.append_nil]; exact hW.below hbt
                  have hm2I : (m2 : Int) ≤ 6 := by omega
                  clear hry hb hbt hW gT
                  go_wp2
                  go_loopw [80] (fun v80 wr => ∃ j : Nat, j ≤ m2 ∧ v80 = .int .i64 j ∧ MapV Dig wr w8.heap.size hkv Value.bool (putB [] (scrU us ++ scrT (ts.take i) ++ (scrO t.outs).take j)) ∧ Below w8.heap.size w8 wr) (fun v _ => m2 - (intOf v).toNat)
                  case atStart => exact ⟨0, by omega, rfl, hWt, hBt⟩
                  case round =>
                    clear hWt hBt tO
                    obtain ⟨j, hj, rfl, hW, hb8⟩ := hrel
                    by_cases hjl : j < m2
                    · have hjl' : (j : Int) < (m2 : Int) := by omega
                      have hjj : (0 : Int) ≤ (j : Int) := by omega
                      obtain ⟨bo, oo, x, hAo, hxo0, hc0, hc1, hxo⟩ := out_at (RK.C.below hOu hb8) j hjl
                      subst hAo
                      have HTK : Hid ((scrO t.outs).take j ++ [sumF (bytesOf x.script)] = (scrO t.outs).take (j + 1)) := Lib.hid (by
                        have : (scrO t.outs)[j]? = some (sumF (bytesOf x.script)) := by unfold scrO; rw [List.getElem?_map, hxo0]; rfl
                        rw [List.take_add_one, this]
                        rfl)
                      have hds : Dig (sumF (bytesOf x.script)) := ⟨sumF_length _, sumF_bytes _⟩
                      obtain ⟨dd, hdd⟩ : ∃ d, sumF (bytesOf x.script) = d := ⟨_, rfl⟩
                      have hroom : (putB [] (scrU us ++ scrT (ts.take i) ++ (scrO t.outs).take j)).length < maxLen := by
                        have h1 := putB_length (scrU us ++ scrT (ts.take i) ++ (scrO t.outs).take j) []
                        have h2 : (scrU us).length = n2 := by unfold scrU; rw [List.length_map, HN2.out]
                        have h3 := HTL.out
                        rw [List.length_append, List.length_append, List.length_take, h2] at h1
                        unfold maxLen
                        simp only [List.length_nil] at h1
                        omega
                      clear hxo0
                      go_upto_region 25 with fail
                      have hba : Below wr.heap.size wr (wr.alloc (.cells #[.int .i64 x.coins, .string x.script] 62)) := (Below.refl _ _).alloc (Nat.le_refl _) _
                      refine wp_gen (q := fun wi => wi.heap[wr.heap.size]? = some (.cells #[.int .i64 x.coins, .string x.script] 62) ∧ Below wr.heap.size wr wi) ⟨heap_alloc_new _ _, hba⟩ (fun wu hw2 => ?_)
                      clear hba hc0 hc1
                      obtain ⟨g2, hb2⟩ := hw2
                      have hWu := hW.below hb2
                      have hBu8 := below_then hb8 hb8.size hb2
                      have t1 : wu.cell? ⟨wr.heap.size, 1, none⟩ = some (.string x.script) := blk_cell g2 rfl
                      have hwl := hW.lt
                      clear hb2 hb8 hW g2
                      go_wp2_with fail
                      refine (script_calls wu (hT.below (below_then hB8 hB8.size hBu8)) x.script hxo.sc).mono ?_
                      rintro e wv ⟨rfl, hbv⟩
                      rw [hdd] at hds HTK ⊢
                      have hWv := hWu.below hbv
                      have hBv8 := below_then hBu8 hBu8.size hbv
                      obtain ⟨wz, hput, hWz, hTz⟩ := MapV.put (P := Tryd.prog) keyHash Tryd.underlying114 hWv hroom hds true
                      have hput' : (Instr.mapUpdate 114 (.map (some w8.heap.size)) (.agg (nums .u8 dd).toArray) (.bool true)).run Tryd.prog wv = .ok () wz := hput
                      rw [← putB_snoc, List.append_assoc, HTK.out] at hWz
                      have hBz8 := hTz.below hBv8 (Nat.le_refl _)
                      clear hput hWv hWu hBu8 hbv t1 hroom hTz hdd
                      go_wp2_with (first | (refine wpList_mapUpd rfl (.tmp 84) (.tmp 87) (.const (.bool true)) 114 rfl (.map (some w8.heap.size)) (.agg (nums .u8 dd).toArray) (.bool true) rfl rfl rfl hput' ?_))
                      go_roundw
                      case rel => exact ⟨j + 1, by omega, by go_num, hWz, hBz8⟩
                      case measure => simp [intOf]; omega
                    · have hjl' : ¬ (j : Int) < (m2 : Int) := by omega
                      rw [show (scrO t.outs).take j = scrO t.outs from List.take_of_length_le (by unfold scrO; rw [List.length_map, HM2.out]; omega), List.append_assoc, ← HTT.out] at hW
                      go_wp2
                      go_roundw
                      case rel => exact ⟨i + 1, by omega, by go_num, hW, hb8⟩
                      case measure => simp [intOf]; omega
                · have hil' : ¬ (i : Int) < (nt : Int) := by omega
                  rename World => wq
                  rw [List.take_of_length_le (by rw [HNT.out]; omega)] at hW
                  have gDq := heap_below hb gD8
                  have hUq := RK.C.below hU8 hb
                  have hKq := RK.C.below hK8 hb
                  have hBq := below_then hB8 hB8.size hb
                  have iD := info_d (.slice A1 ni c1) (.slice A2 n2 c2) (.slice A3 n3 c3) (.int .i64 fe)
                  have hTo := touched_calls wq (fun _ => True) (fun _ => True) (.slice A1 ni c1) A2 A3 n2 c2 n3 c3 fe us ms hus hms hUq hKq
                  clear hUq hKq
                  go_wp2_with (first
                    | ((with_reducible refine wpList_at 90 ?_); refine wpList_load_row rfl 86 (.tmp 9) rfl w7.heap.size rfl 86 _ _ _ gDq hUD rfl iD ?_))
                  refine hTo.mono ?_
                  clear hTo
                  rintro e wg ⟨Ag, mm, cg, l, rfl, hll, hLg, hasc, hmem, hbg⟩
                  have hWg := hW.below hbg
                  have hb8g := below_then hb hb.size hbg
                  have HMEM : Hid (∀ x, x ∈ l ↔ x ∈ scrU us ++ scrT ts) := Lib.hid (fun x => by rw [hmem x, HSC2.out])
                  have HASC := Lib.hid hasc
                  have HLL := Lib.hid hll
                  have hlen : (putB [] (scrU us ++ scrT ts)).length = mm := by rw [← got_len hasc HMEM.out hWg.apart]; exact hll
                  have kl := MapV.len (P := Tryd.prog) Tryd.underlying114 hWg 3
                  rw [hlen] at kl
                  have hmm : mm ≤ 9223372036854775807 := by
                    have := hWg.size
                    unfold maxLen at this
                    omega
                  have hmmI : (mm : Int) ≤ 9223372036854775807 := by omega
                  clear hasc hll hmem hlen hW hb hbg gDq hBq
                  go_wp2
                  go_loopw [99] (fun v99 wr => ∃ i : Nat, i ≤ mm ∧ v99 = .int .i64 i ∧ Below wg.heap.size wg wr) (fun v _ => mm - (intOf v).toNat)
                  case atStart => exact ⟨0, by omega, rfl, Below.refl _ _⟩
                  case round =>
                    obtain ⟨i, hi, rfl, hb⟩ := hrel
                    by_cases hil : i < mm
                    · have hil' : (i : Int) < (mm : Int) := by omega
                      have hii : (0 : Int) ≤ (i : Int) := by omega
                      obtain ⟨b3, o3, cs, x, hA, hx, ⟨rfl, hxl, hxb⟩, hc⟩ := (RK.C.below hLg hb).get i hil
                      have hr : wr.rangeAt b3 (o3 + i * 32) (nums .u8 x) := hc
                      have ih := info_hh x hxl
                      have hWx0 := hWg.below hb
                      have hlk0 : (putB [] (scrU us ++ scrT ts)).lookup x = some true := by
                        rw [putB_look, if_pos ((HMEM.out x).1 (List.mem_of_getElem? hx))]
                      have HX := Lib.hid hx
                      clear hc hx
                      by_cases hi0 : i = 0
                      · subst hi0
                        rw [Nat.zero_mul, Nat.add_zero] at hr
                        subst hA
                        go_upto_region 34 with (first
                          | ((with_reducible refine wpList_at 103 ?_); refine wpList_load_mid rfl 24 (.tmp 102) rfl b3 o3 rfl (nums .u8 x) _ hr hUH rfl ih ?_)
                          | ((with_reducible refine wpList_atS 20 ?_); refine wpList_store_any rfl 24 (.tmp 20) (.tmp 103) rfl wr.heap.size (nums .u8 x).toArray rfl rfl 24 (nums .u8 zeros32).toArray (heap_alloc_new _ _) (info_h x hxl) (size_h x hxl) (nums_all _ _) ?_; intro wx gx htx))
                        have hbx : Below wr.heap.size wr wx := htx.below ((Below.refl _ _).alloc (Nat.le_refl _) _) (Nat.le_refl _)
                        have hbB := below_then hb hb.size hbx
                        have rX := range_block (xs := nums .u8 x) gx
                        have hWx := hWg.below hbB
                        have hlk : ∀ q, (Instr.lookup 114 (.map (some w8.heap.size)) (.agg (nums .u8 x).toArray) false).run Tryd.prog (wx.drewN q) = .ok (.bool true) (wx.drewN q) := fun q => by
                          have h := MapV.look (P := Tryd.prog) false keyHash Tryd.underlying114 (zero_bool (wx.drewN q)) (MapV.keep (w' := wx.drewN q) hWx rfl) (a := x) ⟨hxl, hxb⟩
                          refine Eq.trans h ?_
                          rw [hlk0]
                          rfl
                        clear gx htx hbx hb hr hlk0 hWx0
                        refine wp_region_quiet_lit (by kernel_rfl) (by kernel_rfl) ?_
                        repeat (first
                          | ((with_reducible refine wpQuiet_at 105 ?_); refine wpQuiet_load_midG rfl 24 (.tmp 20) rfl wr.heap.size 0 rfl (nums .u8 x) _ rX hUH rfl ih ?_)
                          | ((with_reducible refine wpQuiet_at 106 ?_); refine wpQuiet_any (by rfl) (.bool true) (exec_lookV (.tmp 104) (.tmp 105) 114 false rfl (.map (some w8.heap.size)) (.agg (nums .u8 x).toArray) _ rfl rfl hlk) ?_)
                          | go_big_quiet_step (fail) | quiet_step (fail))
                        refine wpQuiet_nil ?_
                        rintro _ ⟨nq, rfl⟩
                        clear hlk rX hWx
                        go_wp2
                        go_roundw
                        case rel => exact ⟨0 + 1, by omega, by go_num, below_drewN hbB nq⟩
                        case measure => simp [intOf]; omega
                      · obtain ⟨j, rfl⟩ : ∃ j, i = j + 1 := ⟨i - 1, by omega⟩
                        obtain ⟨b4, o4, cs, y, hA4, hy, ⟨rfl, hyl, hyb⟩, hc4⟩ := (RK.C.below hLg hb).get j (by omega)
                        obtain ⟨rfl, rfl⟩ : b3 = b4 ∧ o3 = o4 := by rw [hA] at hA4; injection hA4 with h; injection h with h1 h2; exact ⟨h1, h2⟩
                        have hry : wr.rangeAt b3 (o3 + j * 32) (nums .u8 y) := hc4
                        have hlt : y < x := by
                          have h1 := List.pairwise_iff_getElem.1 HASC.out j (j + 1) (by have := HLL.out; omega) (by have := HLL.out; omega) (by omega)
                          obtain ⟨q1, q2⟩ := List.getElem?_eq_some_iff.1 hy
                          obtain ⟨q3, q4⟩ := List.getElem?_eq_some_iff.1 HX.out
                          rw [q2, q4] at h1
                          exact h1
                        have hBL := text_lt hyb hxb hlt
                        subst hA
                        clear hc4 hy hA4 hlt
                        go_upto_region 34 with (first
                          | ((with_reducible refine wpList_at 103 ?_); refine wpList_load_mid rfl 24 (.tmp 102) rfl b3 (o3 + (j + 1) * 32) rfl (nums .u8 x) _ hr hUH rfl ih ?_)
                          | ((with_reducible refine wpList_atS 20 ?_); refine wpList_store_any rfl 24 (.tmp 20) (.tmp 103) rfl wr.heap.size (nums .u8 x).toArray rfl rfl 24 (nums .u8 zeros32).toArray (heap_alloc_new _ _) (info_h x hxl) (size_h x hxl) (nums_all _ _) ?_; intro wx gx htx))
                        have hbx : Below wr.heap.size wr wx := htx.below ((Below.refl _ _).alloc (Nat.le_refl _) _) (Nat.le_refl _)
                        have hbB := below_then hb hb.size hbx
                        have rX := range_block (xs := nums .u8 x) gx
                        have hWx := hWg.below hbB
                        have hlk : ∀ q, (Instr.lookup 114 (.map (some w8.heap.size)) (.agg (nums .u8 x).toArray) false).run Tryd.prog (wx.drewN q) = .ok (.bool true) (wx.drewN q) := fun q => by
                          have h := MapV.look (P := Tryd.prog) false keyHash Tryd.underlying114 (zero_bool (wx.drewN q)) (MapV.keep (w' := wx.drewN q) hWx rfl) (a := x) ⟨hxl, hxb⟩
                          refine Eq.trans h ?_
                          rw [hlk0]
                          rfl
                        have hk1 : ∀ q, (convert 22 9 (.slice (some ⟨b3, o3 + j * 32, none⟩) 32 32)).run Tryd.prog (wx.drewN q) = .ok (.string (strOfNums y)) (wx.drewN q) := fun q => conv_rd Tryd.underlying22 Tryd.underlying5 Tryd.underlying9 ⟨by rw [nums_length]; exact hyl, fun _ => ⟨b3, o3 + j * 32, rfl, fun k u hu => range_below hbx hry k u hu⟩⟩
                        have hk2 : ∀ q, (convert 22 9 (.slice (some ⟨wr.heap.size, 0, none⟩) 32 32)).run Tryd.prog (wx.drewN q) = .ok (.string (strOfNums x)) (wx.drewN q) := fun q => conv_rd Tryd.underlying22 Tryd.underlying5 Tryd.underlying9 ⟨by rw [nums_length]; exact hxl, fun _ => ⟨wr.heap.size, 0, rfl, fun k u hu => rX k u hu⟩⟩
                        have hwj : IntKind.i64.wrap (((j + 1 : Nat) : Int) - 1) = (j : Int) := by rw [IntWalk.i64_in _ (by omega)]; omega
                        have hjI : ((j + 1 : Nat) : Int) - 1 = (j : Int) := by omega
                        have hjn : (j : Int) < (mm : Int) := by omega
                        have hj0 : (0 : Int) ≤ (j : Int) := by omega
                        have hjp : (0 : Int) < (j : Int) + 1 := by omega
                        have hjd : decide ((0 : Int) < (j : Int) + 1) = true := decide_eq_true hjp
                        clear gx htx hbx hb hr hlk0 hWx0 hry
                        refine wp_region_quiet_lit (by kernel_rfl) (by kernel_rfl) ?_
                        repeat (first
                          | ((with_reducible refine wpQuiet_at 105 ?_); refine wpQuiet_load_midG rfl 24 (.tmp 20) rfl wr.heap.size 0 rfl (nums .u8 x) _ rX hUH rfl ih ?_)
                          | ((with_reducible refine wpQuiet_at 106 ?_); refine wpQuiet_any (by rfl) (.bool true) (exec_lookV (.tmp 104) (.tmp 105) 114 false rfl (.map (some w8.heap.size)) (.agg (nums .u8 x).toArray) _ rfl rfl hlk) ?_)
                          | ((with_reducible refine wpQuiet_at 117 ?_); refine wpQuiet_any (by rfl) (.string (strOfNums y)) (exec_conv (.tmp 116) 22 9 rfl (.slice (some ⟨b3, o3 + j * 32, none⟩) 32 32) _ rfl hk1) ?_)
                          | ((with_reducible refine wpQuiet_at 119 ?_); refine wpQuiet_any (by rfl) (.string (strOfNums x)) (exec_conv (.tmp 118) 22 9 rfl (.slice (some ⟨wr.heap.size, 0, none⟩) 32 32) _ rfl hk2) ?_)
                          | ((with_reducible refine wpQuiet_at 120 ?_); refine wpQuiet_any (by rfl) (.bool false) (exec_geq (.tmp 117) (.tmp 119) 9 9 rfl (strOfNums y) (strOfNums x) rfl rfl hBL) ?_)
                          | go_big_quiet_step (fail) | quiet_step (fail))
                        refine wpQuiet_nil ?_
                        rintro _ ⟨nq, rfl⟩
                        clear hlk rX hWx hk1 hk2 hBL hwj hjI
                        go_wp2
                        go_roundw
                        case rel => exact ⟨j + 1 + 1, by omega, by go_num, below_drewN hbB nq⟩
                        case measure => simp [intOf]; omega
                    · have hil' : ¬ (i : Int) < (mm : Int) := by omega
                      rename World => ws
                      have hb8s := below_then hb8g hb8g.size hb
                      have gDs := heap_below hb8s gD8
                      have hUs := RK.C.below hU8 hb8s
                      have hKs := RK.C.below hK8 hb8s
                      have hMs0 := hM8.below hb8s
                      have hOs := RK.C.below hO8 hb8s
                      have hBs := below_then hB8 hB8.size hb8s
                      have HMK : Hid (∀ x ∈ ms, MkOk x) := Lib.hid (fun x hx => by
                        obtain ⟨i, hi, rfl⟩ := List.mem_iff_getElem.1 hx
                        obtain ⟨_, _, _, y, _, hy, ⟨_, hk⟩, _⟩ := hK8.get i (by rw [← HN3.out]; exact hi)
                        rw [List.getElem?_eq_getElem hi] at hy
                        exact Option.some.inj hy ▸ hk)
                      have hAp := apply_calls ws (fun _ => True) (fun _ => True) b m hMs0 HG.out.ok (by omega) (.slice A1 ni c1) A2 A3 n2 c2 n3 c3 fe us ms (by omega) hUs (by omega) hKs
                      clear hb8g hb hWg hLg hUs hKs hMs0 kl hTx8 tS8 hU8 hK8 hM8 hO8 gD8 gB8
                      go_wp2_with (first
                        | ((with_reducible refine wpList_at 125 ?_); refine wpList_load_row rfl 86 (.tmp 9) rfl w7.heap.size rfl 86 _ _ _ gDs hUD rfl iD ?_))
                      refine hAp.mono ?_
                      clear hAp
                      rintro e wf ⟨b', o, rfl, hb'0, hPo, hMf, hbf⟩
                      have HG2 : Hid (SetG (k + 1) (delAll (putAll o ms) us)) := Lib.hid (HG.out.next hPo (by have := HN3.out; omega) HMK.out HMC.out)
                      have hOf := RK.C.below hOs hbf
                      have hBf := below_then hBs hBs.size hbf
                      clear hOs hBs gDs hbf hPo
                      go_wp2
                      go_roundw
                      case rel => exact ⟨k + 1, b', _, Al, nl, cl, nx, by omega, by go_num, rfl, rfl, hnl6, HG2, hMf, hOf, hBf⟩
                      case measure => simp [intOf]; omega
      · have hlt' : ¬ (k : Int) < (n : Int) := by omega
        go_wp2
        go_ret
        exact ⟨rfl, hB⟩
end Go.Proofs.YtclkgflficlmiaaDoor
