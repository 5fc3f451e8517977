/- CoinPlans: for every row of blocks of pays the law's call returns true and changes nothing: what each block turns, or why it can't be. -/
import Derived.Test.YtjlkakggmfmfiaaDoorPlanA
set_option maxRecDepth 100000
set_option linter.unusedVariables false
namespace Go.Proofs.YtjlkakggmfmfiaaDoor
open Go Go.RowKit
theorem bldT_each (s : Int) : ∀ (pays : List TPay) (i : Nat) (all : List Pt), (∀ p ∈ pays, p.1.length ≤ 6 ∧ p.2.1.length ≤ 6) → ∀ t ∈ (bldT s i pays all).1, t.ins.length ≤ 6 ∧ t.outs.length ≤ 6
  | [], i, all, _ => fun t ht => by cases ht
  | p :: r, i, all, h => fun t ht => by
    obtain ⟨q1, q2⟩ := h p List.mem_cons_self
    rw [bldT] at ht
    rcases List.mem_cons.1 ht with rfl | ht
    · exact ⟨ins_txB s i p all q1, by rw [outs_txB]; exact q2⟩
    · exact bldT_each s r (i + 1) _ (fun x hx => h x (List.mem_cons_of_mem _ hx)) t ht
theorem usCells_cn {w : World} {b o : Nat} {u : Us} (hu : UsOk u) (h : w.rangeAt b o (usCells u)) : w.rangeAt b (o + 35) (cnCells u.coin) := fun j v hv => by
  have hl := ptL_length hu.1.1.1 u.pt.2
  have h1 := h (35 + j) v (by
    unfold usCells
    rw [show 35 + j = (33 + j) + 1 + 1 by omega, List.getElem?_cons_succ, List.getElem?_cons_succ, List.getElem?_append_right (by rw [hl]; omega), hl, Nat.add_sub_cancel_left]
    exact hv)
  rw [show o + 35 + j = o + (35 + j) by omega]
  exact h1
theorem all_top {k : Nat} {m all : List (Pt × Cn)} (h : SetG k m) (hp : m.Perm all) : ∀ x ∈ all, 0 ≤ x.2.coins ∧ x.2.coins ≤ topM := fun x hx => h.top x (hp.mem_iff.2 hx)
theorem wpQuiet_at {P : Program} {ops : Array Oper} {S : World → Prop} {Q : Act → Prop} {rest : List Oper} {a : Act} (d : Nat) {op : Op} {ty : TypeId} {pos : String} {after : Array Edge} {g : Option (Nat × Bool)} (h : wpQuiet P ops S Q (⟨some d, op, ty, pos, after, g⟩ :: rest) a) : wpQuiet P ops S Q (⟨some d, op, ty, pos, after, g⟩ :: rest) a := h
set_option maxHeartbeats 16000000 in
theorem coinPlans_core (w : World) (hT : Tabs w) (hN : Now w) (S : Nat → Prop) (A : Option Addr) (n c : Nat) (bs : List (List TPay)) (hnc : n ≤ c) (hcm : c ≤ maxLen) (hC : blksK.C S w A n bs) :
    Calls Tryd.prog 19 #[.slice A n c] w fun e w' => e = .returned (.bool true) ∧ Below w.heap.size w w' := by
  have hUB := Tryd.underlying64
  have hUD := Tryd.underlying99
  have hUS := Tryd.underlying108
  have hUT := Tryd.underlying69
  have hUU := Tryd.underlying124
  have hUR := Tryd.underlying126
  have hUP := Tryd.underlying77
  have hUC := Tryd.underlying106
  have hcm' := hcm
  unfold maxLen at hcm'
  have hnI : (n : Int) ≤ 9223372036854775807 := by omega
  have HL := Lib.hid hC.len
  go_enter Tryd.func19, Tryd.ntmps19
  go_wp2_with fail
  refine (head19_calls w hT hN).mono ?_
  rintro e w1 ⟨rfl, hb1⟩
  go_wp2_with fail
  refine (big19_calls w1 S A n c bs hnc hcm (RK.C.below hC hb1)).mono ?_
  rintro e w2 ⟨bb, rfl, hsm, hb2⟩
  have hB2 := below_then hb1 hb1.size hb2
  clear hb1 hb2
  cases bb with
  | true =>
    clear hsm
    go_wp2
    go_ret
    exact ⟨rfl, hB2⟩
  | false =>
    have HBO : Hid (BlksOk bs) := Lib.hid (hsm rfl)
    have hn8 : n ≤ 8 := by have := HBO.out.1; have := HL.out; omega
    clear hsm
    have hm0 : SetV (w2.alloc (.map #[] 0)) w2.heap.size [] := MapV.made w2
    have hbm : Below w.heap.size w (w2.alloc (.map #[] 0)) := hB2.alloc hB2.size _
    have km := run_makeMap (P := Tryd.prog) 108 w2
    go_upto_region 6 with fail
    clear km
    refine wp_gen (q := fun wi => SetV wi w2.heap.size [] ∧ Below w.heap.size w wi) ⟨hm0, hbm⟩ (fun w3 hw => ?_)
    clear hm0 hbm
    obtain ⟨hM3, hB3⟩ := hw
    go_upto_region 8 with fail
    refine wp_gen (q := fun wi => SetV wi w2.heap.size [] ∧ Below w.heap.size w wi) ⟨(hM3.below ((Below.refl _ _).alloc (Nat.le_refl _) _)).below ((Below.refl _ _).alloc (Nat.le_refl _) _), (hB3.alloc hB3.size _).alloc (hB3.alloc hB3.size _).size _⟩ (fun w4 hw => ?_)
    clear hM3 hB3
    obtain ⟨hM4, hB4⟩ := hw
    have HG0 : Hid (SetG 0 []) := Lib.hid SetG.nil
    have HPM0 : Hid (([] : List (Pt × Cn)).Perm []) := Lib.hid (List.Perm.refl _)
    have hAl4 : mkK.C (fun _ => True) w4 (some ⟨w3.heap.size, 0, none⟩) 0 [] := RK.C.nil _ _ _ _
    have hO4 : ptK.C (fun _ => True) w4 (some ⟨w3.heap.size + 1, 0, none⟩) 0 [] := RK.C.nil _ _ _ _
    go_wp2
    go_loopw [3, 4, 5, 31] (fun v3 v4 v5 v31 wr => ∃ (k b : Nat) (m : List (Pt × Cn)) (Aa : Option Addr) (na ca : Nat) (all : List (Pt × Cn)) (Ao : Option Addr) (no co : Nat) (outs : List Pt), k ≤ n ∧ v31 = .int .i64 k ∧ v3 = .map (some b) ∧ v4 = .slice Aa na ca ∧ v5 = .slice Ao no co ∧ no ≤ 36 * k ∧ Hid (SetG k m) ∧ Hid (m.Perm all) ∧ SetV wr b m ∧ mkK.C (fun _ => True) wr Aa na all ∧ ptK.C (fun _ => True) wr Ao no outs ∧ Below w.heap.size w wr) (fun _ _ _ v _ => n - (intOf v).toNat)
    case atStart => exact ⟨0, w2.heap.size, [], some ⟨w3.heap.size, 0, none⟩, 0, 0, [], some ⟨w3.heap.size + 1, 0, none⟩, 0, 0, [], by omega, rfl, rfl, rfl, rfl, by omega, HG0, HPM0, hM4, hAl4, hO4, hB4⟩
    case round =>
      clear hB2 hM4 hB4 HG0 hO4 HPM0 hAl4
      obtain ⟨k, b, m, Aa, na, ca, all, Ao, no, co, outs, hk, rfl, rfl, rfl, rfl, hno, HG, HPM, hM, hAl, hO, hB⟩ := hrel
      rename World => wo
      by_cases hlt : k < n
      · have hlt' : (k : Int) < (n : Int) := by omega
        have hkk : (0 : Int) ≤ (k : Int) := by omega
        obtain ⟨b1, o1, cs, ps, hA, hx, ⟨P1, np, pc, rfl, hpc, hpm, hP⟩, hcx⟩ := (RK.C.below hC hB).get k hlt
        subst hA
        have hcl : wo.cell? ⟨b1, o1 + k, none⟩ = some (.slice P1 np pc) := by
          have := hcx 0 _ (show [Value.slice P1 np pc][0]? = some (.slice P1 np pc) from rfl)
          rwa [show (RK.slice payK).sz = 1 from rfl, Nat.mul_one, Nat.add_zero] at this
        have hpo : PaysOk ps := HBO.out.2 ps (List.mem_of_getElem? hx)
        have HSM := Lib.hid (bldT_sums (k : Int) ps 0 outs hpo.2)
        have HEA := Lib.hid (bldT_each (k : Int) ps 0 outs hpo.2)
        have HOL := Lib.hid hO.len
        have HPO := Lib.hid hpo
        have hna : na ≤ 288 := by have h1 := HG.out.len; have h2 := HPM.out.length_eq; have h3 := hAl.len; omega
        have hBld := build_calls wo (hT.below hB) (hN.below hB) S (fun _ => True) P1 np pc ps hpc hpm hP hpo Ao no co outs (by omega) hO (k : Int) (k : Int) (cs_u32wrap k (by omega)) (by omega) (by omega)
        obtain ⟨bt, hbt⟩ : ∃ bt, bldT (k : Int) 0 ps outs = bt := ⟨_, rfl⟩
        rw [hbt] at hBld HSM HEA
        obtain ⟨ts, nx⟩ := bt
        clear hbt hx hcx hpo hP
        go_wp2_with fail
        refine hBld.mono ?_
        rintro e w5 ⟨hb5, At, ct, Al, cl, rfl, hle, hct, hTx, hPt⟩
        obtain ⟨hh, hhE⟩ : ∃ hh, bldH (k : Int) ts = hh := ⟨_, rfl⟩
        have hok : hh.Ok := by rw [← hhE]; exact bldH_ok (by omega) (by omega) _
        simp only [hhE]
        simp only at hle hTx hPt HSM HEA
        obtain ⟨nt, hnt⟩ : ∃ nt, ts.length = nt := ⟨_, rfl⟩
        obtain ⟨nl, hnl⟩ : ∃ nl, nx.length = nl := ⟨_, rfl⟩
        rw [hnt] at hle hTx ⊢
        rw [hnl] at hPt ⊢
        have hnt6 : nt ≤ 6 := by have := HSM.out.2.2.2.1; have := HPO.out.1; omega
        have hnl6 : nl ≤ 36 * (k + 1) := by have := HSM.out.2.2.1; have := HPO.out.1; have := HOL.out; omega
        have hiB := info_blkA hok At nt ct
        have hBw5 := below_then hB hB.size hb5
        have hM5 := hM.below hb5
        have hAl5 := RK.C.below hAl hb5
        have hOo5 := RK.C.below hO hb5
        have HNT := Lib.hid hnt
        have HNL := Lib.hid hnl
        clear hBld hhE hcl hb5 hM hO hnt hnl hAl
        go_upto_region 12 with (first
          | ((with_reducible refine wpList_atS 8 ?_); refine wpList_store_any rfl 64 (.tmp 8) (.tmp 41) rfl w5.heap.size (blkCells hh At nt ct).toArray rfl rfl 64 (blkCells hd0 none 0 0).toArray (heap_alloc_new _ _) hiB (by rw [List.size_toArray, List.size_toArray, blkCells_length hok, blkCells_length hd0_ok]) (blkCells_all hh At nt ct) ?_; intro w6 gB6 ht6))
        have hb6 : Below w5.heap.size w5 w6 := ht6.below ((Below.refl _ _).alloc (Nat.le_refl _) _) (Nat.le_refl _)
        have hB6 := below_then hBw5 hBw5.size hb6
        have hTx6 := RK.C.below hTx hb6
        have hO6 : ptK.C (fun _ => True) w6 Al nl nx := RK.C.below (RK.Own.C_ (S' := fun _ => True) hPt (fun _ _ => trivial) (fun _ _ => trivial)) hb6
        have hM6 := hM5.below hb6
        have hAl6 := RK.C.below hAl5 hb6
        have hOo6 := RK.C.below hOo5 hb6
        have hlB := heap_lt gB6
        clear ht6 hTx hPt hM5 hb6 hBw5 hOo5 hAl5
        have hPl := plan_calls w6 (hT.below hB6) (hN.below hB6) (setV b) 0 m (fun w => SetV w b m) (set_view HG.out.ok HG.out.top) hM6 (fun q => wo.heap.size ≤ q) hh hok At nt ct ts hle hct (by omega) hTx6 (k : Int)
        have HPS := Lib.hid (fun d (h : planF hh ts (k : Int) 0 m = .ok d) => plan_sum (by omega) (by omega) h)
        have HREL := plan_law HPM.out hM6.apart hh ts (k : Int) (by omega) (by omega)
        obtain ⟨pr, hpr⟩ : ∃ pr, planF hh ts (k : Int) 0 m = pr := ⟨_, rfl⟩
        rw [hpr] at hPl HPS HREL
        clear hpr
        go_wp2_with (first
          | ((with_reducible refine wpList_at 44 ?_); refine wpList_load_row rfl 64 (.tmp 8) rfl w5.heap.size rfl 64 _ _ _ gB6 hUB rfl hiB ?_))
        refine hPl.mono ?_
        clear hPl
        rintro e w7 ⟨hb7, hpp⟩
        have hB7 := below_then hB6 hB6.size hb7
        have gB7 := heap_below hb7 gB6
        have hM7 := hM6.below hb7
        have hAl7 := RK.C.below hAl6 hb7
        have hOo7 := RK.C.below hOo6 hb7
        have hTx7 := RK.C.below hTx6 hb7
        have hO7 := RK.C.below hO6 hb7
        clear gB6 hB6 hM6 hOo6 hAl6 hTx6 hO6 hb7
        match pr, hpp with
        | .error x, hpp =>
          obtain rfl : e = _ := hpp
          have HG' := Lib.hid HG.out.mono
          clear HPS
          go_upto_region 13 with (first
            | ((with_reducible refine wpList_atS 10 ?_); refine wpList_store_any rfl 99 (.tmp 10) (.tmp 49) rfl w7.heap.size dz rfl rfl 99 dz (heap_alloc_new _ _) (info_d _ _ _ _) rfl (one_d _ _ _ _ _ _ _ _ _ _) ?_; intro w8 gE8 ht8))
          have hb8 : Below w7.heap.size w7 w8 := ht8.below ((Below.refl _ _).alloc (Nat.le_refl _) _) (Nat.le_refl _)
          have hM8 := hM7.below hb8
          have hAl8 := RK.C.below hAl7 hb8
          have hO8 := RK.C.below hOo7 hb8
          have hTx8 := RK.C.below hTx7 hb8
          have hB8 := below_then hB7 hB7.size hb8
          have gB8 := heap_below hb8 gB7
          have hlE := heap_lt gE8
          clear hM7 hOo7 hB7 hb8 ht8 gB7 hAl7 hTx7 hO7
          have hLw := plan19_calls w8 (hT.below hB8) (hN.below hB8) (fun q => wo.heap.size ≤ q) (fun _ => True) hh hok At nt ct ts hle hct hnt6 hTx8 HEA.out (k : Int) Aa na ca all (by omega) hAl8 (all_top HG.out HPM.out)
          obtain ⟨lr, hlr⟩ : ∃ lr, lawF hh ts (k : Int) all = lr := ⟨_, rfl⟩
          rw [hlr] at hLw HREL
          clear hlr hTx8
          go_wp2_with (first
            | ((with_reducible refine wpList_at 52 ?_); refine wpList_load_row rfl 64 (.tmp 8) rfl w5.heap.size rfl 64 _ _ _ gB8 hUB rfl hiB ?_))
          refine hLw.mono ?_
          clear hLw
          rintro e w9 ⟨hb9, hlp⟩
          match lr, HREL, hlp with
          | .error y, HREL, hlp =>
            obtain ⟨rfl, hx0⟩ : x = y ∧ x ≠ 0 := HREL
            obtain rfl : e = _ := hlp
            have hx0' : (x != 0) = true := by rw [bne_iff_ne]; exact hx0
            have hxx : (x != x) = false := by simp
            have hM9 := hM8.below hb9
            have hAl9 := RK.C.below hAl8 hb9
            have hO9 := RK.C.below hO8 hb9
            have hB9 := below_then hB8 hB8.size hb9
            have gE9 := heap_below hb9 gE8
            have q0 : w9.cell? ⟨w7.heap.size, 0, none⟩ = some (.slice none 0 0) := blk_cell gE9 rfl
            have q1 : w9.cell? ⟨w7.heap.size, 1, none⟩ = some (.slice none 0 0) := blk_cell gE9 rfl
            have q2 : w9.cell? ⟨w7.heap.size, 2, none⟩ = some (.slice none 0 0) := blk_cell gE9 rfl
            have q3 : w9.cell? ⟨w7.heap.size, 3, none⟩ = some (.int .i64 0) := blk_cell gE9 rfl
            clear hx0 HREL hlp hM8 hAl8 hO8 hB8 gE8 gB8 hb9 gE9
            go_wp2
            go_roundw
            case rel => exact ⟨k + 1, b, m, Aa, na, ca, all, Ao, no, co, outs, by omega, by go_num, rfl, rfl, rfl, by omega, HG', HPM, hM9, hAl9, hO9, hB9⟩
            case measure => simp [intOf]; omega
        | .ok d, hpp =>
          have hPS := HPS.out d rfl
          obtain ⟨lw, hlr, hPK⟩ : ∃ lw, lawF hh ts (k : Int) all = .ok lw ∧ PlanOk m ts d lw := by
            cases hl : lawF hh ts (k : Int) all with
            | error y => rw [hl] at HREL; exact HREL.elim
            | ok lw => rw [hl] at HREL; exact ⟨lw, rfl, HREL⟩
          have HLR := Lib.hid hlr
          obtain ⟨ids, us, ms, fe⟩ := d
          obtain ⟨lo, lg, lf⟩ := lw
          obtain ⟨A1, c1, A2, c2, A3, c3, rfl, -, hU, hK⟩ := hpp
          simp only at hU hK
          simp only
          have hus : us.length ≤ 36 := by have := hPS.uses; have := HSM.out.1; have := HPO.out.1; simp only at *; omega
          have hms : ms.length ≤ 36 := by have := hPS.makes; have := HSM.out.2.1; have := HPO.out.1; simp only at *; omega
          have HMC : Hid (∀ x ∈ ms, 0 ≤ x.2.coins ∧ x.2.coins ≤ 65535) := Lib.hid (fun x hx => by
            obtain ⟨t, ht, o, ho, e⟩ := hPS.mem x hx
            rw [e]
            exact HSM.out.2.2.2.2 t ht o ho)
          have HPKK := Lib.hid hPK
          obtain rfl : lf = fe := hPK.fees
          obtain rfl : lg = pairs us := hPK.gone
          have hidl : ids.length = nt := by rw [show ids = idsF ts from hPK.ids, ← HNT.out]; unfold idsF; rw [List.length_map]
          obtain ⟨n2, hn2⟩ : ∃ n2, us.length = n2 := ⟨_, rfl⟩
          obtain ⟨n3, hn3⟩ : ∃ n3, ms.length = n3 := ⟨_, rfl⟩
          have hpl : (pairs us).length = n2 := by unfold pairs; rw [List.length_map, hn2]
          rw [hn2] at hU hus ⊢
          rw [hn3] at hK hms ⊢
          rw [hidl]
          have HN2 := Lib.hid hn2
          have HN3 := Lib.hid hn3
          have HPL := Lib.hid hpl
          clear hPK hPS HPS HREL hn2 hn3 hidl hlr hpl
          go_upto_region 13 with (first
            | ((with_reducible refine wpList_atS 10 ?_); refine wpList_store_any rfl 99 (.tmp 10) (.tmp 49) rfl w7.heap.size #[.slice A1 nt c1, .slice A2 n2 c2, .slice A3 n3 c3, .int .i64 lf] rfl rfl 99 dz (heap_alloc_new _ _) (info_d _ _ _ _) rfl (one_d _ _ _ _ _ _ _ _ _ _) ?_; intro w8 gD8 ht8))
          have hb8 : Below w7.heap.size w7 w8 := ht8.below ((Below.refl _ _).alloc (Nat.le_refl _) _) (Nat.le_refl _)
          have hM8 := hM7.below hb8
          have hAl8 := RK.C.below hAl7 hb8
          have hO8 := RK.C.below hO7 hb8
          have hTx8 := RK.C.below hTx7 hb8
          have hU8 : usK.C (fun _ => True) w8 A2 n2 us := RK.C.below (RK.Own.C_ (S' := fun _ => True) hU (fun _ h => h.elim) (fun _ _ => trivial)) hb8
          have hK8 : mkK.C (fun _ => True) w8 A3 n3 ms := RK.C.below (RK.Own.C_ (S' := fun _ => True) hK (fun _ h => h.elim) (fun _ _ => trivial)) hb8
          have hB8 := below_then hB7 hB7.size hb8
          have gB8 := heap_below hb8 gB7
          have hlD := heap_lt gD8
          clear hM7 hO7 hTx7 hU hK hB7 hb8 ht8 gB7 hOo7 hAl7
          have hLw := plan19_calls w8 (hT.below hB8) (hN.below hB8) (fun q => wo.heap.size ≤ q) (fun _ => True) hh hok At nt ct ts hle hct hnt6 hTx8 HEA.out (k : Int) Aa na ca all (by omega) hAl8 (all_top HG.out HPM.out)
          rw [HLR.out] at hLw
          go_wp2_with (first
            | ((with_reducible refine wpList_at 52 ?_); refine wpList_load_row rfl 64 (.tmp 8) rfl w5.heap.size rfl 64 _ _ _ gB8 hUB rfl hiB ?_))
          refine hLw.mono ?_
          clear hLw hAl8
          rintro e w9 ⟨hb9, L1, d1, L2, d2, rfl, hLo, hLg⟩
          simp only at hLo hLg
          simp only
          obtain ⟨n9, hn9⟩ : ∃ n9, lo.length = n9 := ⟨_, rfl⟩
          rw [HPL.out] at hLg ⊢
          rw [hn9] at hLo ⊢
          have HN9 := Lib.hid hn9
          have hM9 := hM8.below hb9
          have hO9 := RK.C.below hO8 hb9
          have hTx9 := RK.C.below hTx8 hb9
          have hU9 := RK.C.below hU8 hb9
          have hK9 := RK.C.below hK8 hb9
          have hB9 := below_then hB8 hB8.size hb9
          have gB9 := heap_below hb9 gB8
          have gD9 := heap_below hb9 gD8
          have hl9 := hb9.size
          have hLoC : mkK.C (fun _ => True) w9 L1 n9 lo := RK.Own.C_ (S' := fun _ => True) hLo (fun _ h => h.elim) (fun _ _ => trivial)
          have hLgC : mkK.C (fun _ => True) w9 L2 n2 (pairs us) := RK.Own.C_ (S' := fun _ => True) hLg (fun _ h => h.elim) (fun _ _ => trivial)
          have q0 : w9.cell? ⟨w7.heap.size, 0, none⟩ = some (.slice A1 nt c1) := blk_cell gD9 rfl
          have q1 : w9.cell? ⟨w7.heap.size, 1, none⟩ = some (.slice A2 n2 c2) := blk_cell gD9 rfl
          have q3 : w9.cell? ⟨w7.heap.size, 3, none⟩ = some (.int .i64 lf) := blk_cell gD9 rfl
          have tS9 : w9.cell? ⟨w5.heap.size, 68, none⟩ = some (.slice At nt ct) := blk_cell gB9 (by rw [List.getElem?_toArray]; exact blkCells_at hok At nt ct)
          have hn2I : (n2 : Int) ≤ 36 := by omega
          clear hn9 hb9 hLo hLg hM8 hO8 hTx8 hU8 hK8 hB8 gB8 gD8
          go_upto_region 22 with fail
          clear q0 q1 q3
          go_wp2
          go_loopw [110] (fun v110 wr => ∃ i : Nat, i ≤ n2 ∧ v110 = .int .i64 i ∧ Below w9.heap.size w9 wr) (fun v _ => n2 - (intOf v).toNat)
          case atStart => exact ⟨0, by omega, rfl, Below.refl _ _⟩
          case round =>
            obtain ⟨i, hi, rfl, hb⟩ := hrel
            by_cases hil : i < n2
            · have hil' : (i : Int) < (n2 : Int) := by omega
              have hii : (0 : Int) ≤ (i : Int) := by omega
              obtain ⟨b3, o3, cs, u, hA, hx, ⟨rfl, huk⟩, hc⟩ := (RK.C.below hU9 hb).get i hil
              obtain ⟨b4, o4, cs, y, hA4, hy, ⟨rfl, hyk⟩, hc4⟩ := (RK.C.below hLgC hb).get i hil
              obtain ⟨t, x, ht, hx2, hpt⟩ := HPKK.out.at_ u (List.mem_of_getElem? hx)
              obtain rfl : (u.pt, u.coin) = y := by
                unfold pairs at hy
                rw [List.getElem?_map, hx] at hy
                exact Option.some.inj hy
              have hup : u.pos < nt := by rw [← HNT.out]; exact (List.getElem?_eq_some_iff.1 ht).1
              obtain ⟨bt, ot, cst, t', hAt, ht', hKt, hct4⟩ := (RK.C.below hTx9 hb).get u.pos hup
              obtain rfl : t = t' := by rw [ht] at ht'; exact Option.some.inj ht'
              obtain ⟨X1, xc1, X2, xc2, rfl, x1, x2, x3, x4, hI, _⟩ := txK_form hKt
              have hui : u.inn < t.ins.length := (List.getElem?_eq_some_iff.1 hx2).1
              obtain ⟨bi, oi, x', Aw, nw, cw, hAi, hx3, hri, hxo, _, _, _⟩ := in_at hI u.inn hui
              obtain rfl : x = x' := by rw [hx2] at hx3; exact Option.some.inj hx3
              have hr : wr.rangeAt b3 (o3 + i * 70) (usCells u) := hc
              have i1 := info_us huk
              have i2 := info_usA huk
              have ip := info_pt huk.1.1.1 u.pt.2
              have ic := info_cn huk.2
              have rGP0 : wr.rangeAt b4 (o4 + i * 68) (ptL u.pt.1 u.pt.2) := range_mk_pt (x := (u.pt, u.coin)) hc4
              have rGC0 : wr.rangeAt b4 (o4 + i * 68 + 33) (cnCells u.coin) := mkCells_cn (x := (u.pt, u.coin)) hyk hc4
              have rI0 : wr.rangeAt bi (oi + u.inn * 36) (ptL u.pt.1 u.pt.2) := by
                have := range_in_pt hri
                rw [← hpt]
                exact this
              have cI0 : wr.cell? ⟨bt, ot + u.pos * 4 + 1, none⟩ = some (.slice X1 t.ins.length xc1) := hct4 1 _ rfl
              have cB0 := cell_below hb tS9
              obtain ⟨nn, hnn⟩ : ∃ nn, t.ins.length = nn := ⟨_, rfl⟩
              rw [hnn] at hui cI0
              have hEP : ∀ W, (Op.equalIn 10000 77 (.agg (ptL u.pt.1 u.pt.2).toArray) (.agg (ptL u.pt.1 u.pt.2).toArray)).run Tryd.prog W = .ok true W := fun W => by
                rw [eq_pt u.pt.1 u.pt.1 u.pt.2 u.pt.2 huk.1.1.1 huk.1.1.1]
                simp
              have hEC := eq_cn u.coin huk.2
              subst hA
              subst hA4
              subst hAt
              subst hAi
              have c0 : (usCells u).toArray[0]? = some (.int .i64 (u.pos : Int)) := rfl
              have c1 : (usCells u).toArray[1]? = some (.int .i64 (u.inn : Int)) := rfl
              have hupI : (u.pos : Int) < (nt : Int) := by omega
              have huiI : (u.inn : Int) < (nn : Int) := by omega
              have hup0 : (0 : Int) ≤ (u.pos : Int) := by omega
              have hui0 : (0 : Int) ≤ (u.inn : Int) := by omega
              obtain ⟨up, ui, ⟨pid, pout⟩, cc⟩ := u
              simp only at hr i1 i2 ip ic rGP0 rGC0 rI0 cI0 hEP hEC c0 c1 hupI huiI hup0 hui0
              clear hc hx hc4 hy ht ht' hct4 hKt hI hri hx2 hx3 hpt hyk x1 x2 x3 x4 hnn hup hui
              go_upto_region 24 with (first
                | ((with_reducible refine wpList_at 114 ?_); refine wpList_load_mid rfl 124 (.tmp 113) rfl b3 (o3 + i * 70) rfl (usCells ⟨up, ui, (pid, pout), cc⟩) _ hr hUU rfl i1 ?_)
                | ((with_reducible refine wpList_atS 17 ?_); refine wpList_store_any rfl 124 (.tmp 17) (.tmp 114) rfl wr.heap.size (usCells ⟨up, ui, (pid, pout), cc⟩).toArray rfl rfl 124 (usCells us0).toArray (heap_alloc_new _ _) i2 (size_us us0_ok huk) (usCells_all _) ?_; intro wx gx htx))
              have hbx : Below wr.heap.size wr wx := htx.below ((Below.refl _ _).alloc (Nat.le_refl _) _) (Nat.le_refl _)
              have hbB := below_then hb hb.size hbx
              have k0 : wx.cell? ⟨wr.heap.size, 0, none⟩ = some (.int .i64 (up : Int)) := blk_cell gx c0
              have k1 : wx.cell? ⟨wr.heap.size, 1, none⟩ = some (.int .i64 (ui : Int)) := blk_cell gx c1
              have rP : wx.rangeAt wr.heap.size 2 (ptL pid pout) := by have := usCells_pt (range_block (xs := usCells ⟨up, ui, (pid, pout), cc⟩) gx); rwa [Nat.zero_add] at this
              have rC : wx.rangeAt wr.heap.size 35 (cnCells cc) := by have := usCells_cn huk (range_block (xs := usCells ⟨up, ui, (pid, pout), cc⟩) gx); rwa [Nat.zero_add] at this
              have rGP := range_below hbx rGP0
              have rGC := range_below hbx rGC0
              have rI := range_below hbx rI0
              have cI := cell_below hbx cI0
              have cB := cell_below hbx cB0
              clear gx htx hbx hb hr c0 c1 rGP0 rGC0 rI0 cI0 cB0
              refine wp_region_quiet_lit (by kernel_rfl) (by kernel_rfl) ?_
              repeat (first
                | ((with_reducible refine wpQuiet_at 116 ?_); refine wpQuiet_load_midG rfl 77 (.tmp 115) rfl wr.heap.size 2 rfl (ptL pid pout) _ rP hUP rfl ip ?_)
                | ((with_reducible refine wpQuiet_at 121 ?_); refine wpQuiet_load_midG rfl 77 (.tmp 120) rfl b4 (o4 + i * 68) rfl (ptL pid pout) _ rGP hUP rfl ip ?_)
                | ((with_reducible refine wpQuiet_at 125 ?_); refine wpQuiet_load_midG rfl 106 (.tmp 124) rfl wr.heap.size 35 rfl (cnCells cc) _ rC hUC rfl ic ?_)
                | ((with_reducible refine wpQuiet_at 130 ?_); refine wpQuiet_load_midG rfl 106 (.tmp 129) rfl b4 (o4 + i * 68 + 33) rfl (cnCells cc) _ rGC hUC rfl ic ?_)
                | ((with_reducible refine wpQuiet_at 145 ?_); refine wpQuiet_load_midG rfl 77 (.tmp 144) rfl bi (oi + ui * 36) rfl (ptL pid pout) _ rI hUP rfl ip ?_)
                | ((with_reducible refine wpQuiet_at 147 ?_); refine wpQuiet_load_midG rfl 77 (.tmp 146) rfl wr.heap.size 2 rfl (ptL pid pout) _ rP hUP rfl ip ?_)
                | go_big_quiet_step (fail) | quiet_step (fail))
              refine wpQuiet_nil ?_
              rintro _ ⟨nq, rfl⟩
              clear k0 k1 rP rC rGP rGC rI cI cB hEP hEC
              go_wp2
              go_roundw
              case rel => exact ⟨i + 1, by omega, by go_num, below_drewN hbB nq⟩
              case measure => simp [intOf]; omega
            · have hil' : ¬ (i : Int) < (n2 : Int) := by omega
              rename World => wp
              have hMp := hM9.below hb
              have hOp := RK.C.below hO9 hb
              have hUp := RK.C.below hU9 hb
              have hKp := RK.C.below hK9 hb
              have hLp := RK.C.below hLoC hb
              have hBp := below_then hB9 hB9.size hb
              have gDp := heap_below hb gD9
              have HMK : Hid (∀ x ∈ ms, MkOk x) := Lib.hid (fun x hx => by
                obtain ⟨i, hi, rfl⟩ := List.mem_iff_getElem.1 hx
                obtain ⟨_, _, _, y, _, hy, ⟨_, hk⟩, _⟩ := hK9.get i (by rw [← HN3.out]; exact hi)
                rw [List.getElem?_eq_getElem hi] at hy
                exact Option.some.inj hy ▸ hk)
              have hml : m.length ≤ 288 := by have := HG.out.len; omega
              have HNOD := Lib.hid hM9.apart
              have hAp := apply_calls wp (fun _ => True) (fun _ => True) b m hMp HG.out.ok (by omega) (.slice A1 nt c1) A2 A3 n2 c2 n3 c3 lf us ms (by omega) hUp (by omega) hKp
              have iD := info_d (.slice A1 nt c1) (.slice A2 n2 c2) (.slice A3 n3 c3) (.int .i64 lf)
              clear hM9 hO9 hU9 hK9 hLoC hLgC hB9 gD9 hb tS9 hTx9 gB9 hMp hUp hKp
              go_wp2_with (first
                | ((with_reducible refine wpList_at 152 ?_); refine wpList_load_row rfl 99 (.tmp 10) rfl w7.heap.size rfl 99 _ _ _ gDp hUD rfl iD ?_))
              refine hAp.mono ?_
              clear hAp
              rintro e ws ⟨b', o, rfl, hb'0, hPo, hMs, hbs⟩
              have HG2 : Hid (SetG (k + 1) (delAll (putAll o ms) us)) := Lib.hid (HG.out.next hPo (by have := HN3.out; omega) HMK.out HMC.out)
              have HPM2 : Hid ((delAll (putAll o ms) us).Perm lo) := Lib.hid ((HPKK.out.out.trans (applyF_perm ⟨ids, us, ms, lf⟩ HNOD.out hPo)).symm)
              obtain ⟨m2, hm2⟩ : ∃ m2, delAll (putAll o ms) us = m2 := ⟨_, rfl⟩
              rw [hm2] at hMs HG2 HPM2
              have hOs := RK.C.below hOp hbs
              have hLs := RK.C.below hLp hbs
              have hBs := below_then hBp hBp.size hbs
              have hmn : m2.length = n9 := by rw [← HN9.out]; exact HPM2.out.length_eq
              have kl := MapV.len (P := Tryd.prog) hUS hMs 3
              rw [hmn] at kl
              have hn9 : n9 ≤ 324 := by have := HG2.out.len; omega
              have hn9I : (n9 : Int) ≤ 324 := by omega
              have HLK : Hid (∀ x ∈ lo, m2.lookup x.1 = some x.2) := Lib.hid (fun x hx => lookup_some_of hMs.apart (HPM2.out.mem_iff.2 hx))
              clear hOp hLp hBp gDp hbs hm2 hPo hmn
              have HG2m := HG2
              go_wp2
              go_loopw [163] (fun v163 wr => ∃ i : Nat, i ≤ n9 ∧ v163 = .int .i64 i ∧ Below ws.heap.size ws wr) (fun v _ => n9 - (intOf v).toNat)
              case atStart => exact ⟨0, by omega, rfl, Below.refl _ _⟩
              case round =>
                obtain ⟨i, hi, rfl, hb⟩ := hrel
                by_cases hil : i < n9
                · have hil' : (i : Int) < (n9 : Int) := by omega
                  have hii : (0 : Int) ≤ (i : Int) := by omega
                  obtain ⟨b3, o3, cs, x, hA, hx, ⟨rfl, hxk⟩, hc⟩ := (RK.C.below hLs hb).get i hil
                  have hr : wr.rangeAt b3 (o3 + i * 68) (mkCells x) := hc
                  have i1 := info_rw hxk
                  have i2 := info_rwA hxk
                  have ip := info_pt hxk.1.1.1 x.1.2
                  have ic := info_cn hxk.2
                  have icA := info_cnA hxk.2
                  have HXL := HLK.out x (List.mem_of_getElem? hx)
                  have HEQ := eq_cn x.2 hxk.2
                  subst hA
                  clear hc hx
                  go_upto_region 35 with (first
                    | ((with_reducible refine wpList_at 166 ?_); refine wpList_load_mid rfl 126 (.tmp 165) rfl b3 (o3 + i * 68) rfl (mkCells x) _ hr hUR rfl i1 ?_)
                    | ((with_reducible refine wpList_atS 19 ?_); refine wpList_store_any rfl 126 (.tmp 19) (.tmp 166) rfl wr.heap.size (mkCells x).toArray rfl rfl 126 (mkCells mk0).toArray (heap_alloc_new _ _) i2 (size_mk mk0_ok hxk) (mkCells_all _) ?_; intro wx gx htx))
                  have hbx : Below wr.heap.size wr wx := htx.below ((Below.refl _ _).alloc (Nat.le_refl _) _) (Nat.le_refl _)
                  have hbB := below_then hb hb.size hbx
                  have r1 := range_mk_pt (range_block (xs := mkCells x) gx)
                  have hMx := hMs.below hbB
                  have hlk := MapV.look (P := Tryd.prog) true keyPt hUS (zero_cn wx) hMx hxk.1
                  have hrun : (Instr.lookup 108 (.map (some b')) (.agg (ptL x.1.1 x.1.2).toArray) true).run Tryd.prog wx = .ok (.tuple #[.agg (cnCells x.2).toArray, .bool true]) wx := by
                    refine Eq.trans hlk ?_
                    rw [HXL]
                    rfl
                  have hlx := heap_lt gx
                  clear htx hbx hb hr hlk hMx HXL
                  go_upto_region 36 with (first
                    | ((with_reducible refine wpList_at 170 ?_); refine wpList_load_mid rfl 77 (.tmp 169) rfl wr.heap.size 0 rfl (ptL x.1.1 x.1.2) _ r1 hUP rfl ip ?_)
                    | ((with_reducible refine wpList_at 171 ?_); refine wpList_lookV rfl (.tmp 168) (.tmp 170) 108 true rfl (.map (some b')) (.agg (ptL x.1.1 x.1.2).toArray) _ rfl rfl hrun ?_)
                    | ((with_reducible refine wpList_atS 20 ?_); refine wpList_store_any rfl 106 (.tmp 20) (.tmp 172) rfl wx.heap.size (cnCells x.2).toArray rfl rfl 106 (cnCells cn0).toArray (heap_alloc_new _ _) icA (size_cn cn0_ok hxk.2) (cnCells_all _) ?_; intro wy gy hty))
                  have hby : Below wx.heap.size wx wy := hty.below ((Below.refl _ _).alloc (Nat.le_refl _) _) (Nat.le_refl _)
                  have hbY := below_then hbB hbB.size hby
                  have gxy := heap_below hby gx
                  have r2 : wy.rangeAt wr.heap.size 33 (cnCells x.2) := by have := mkCells_cn hxk (range_block (xs := mkCells x) gxy); rwa [Nat.zero_add] at this
                  clear hty hby hbB r1 hrun gx
                  go_wp2_with (first
                    | ((with_reducible refine wpList_at 177 ?_); refine wpList_load_rowG (by rfl) 106 (.tmp 20) rfl wx.heap.size rfl 106 _ _ _ gy hUC rfl icA ?_)
                    | ((with_reducible refine wpList_at 179 ?_); refine wpList_load_midG (by rfl) 106 (.tmp 178) rfl wr.heap.size 33 rfl (cnCells x.2) _ r2 hUC rfl ic ?_))
                  go_roundw
                  case rel => exact ⟨i + 1, by omega, by go_num, hbY⟩
                  case measure => simp [intOf]; omega
                · have hil' : ¬ (i : Int) < (n9 : Int) := by omega
                  have hMe := hMs.below hb
                  have hLe := RK.C.below hLs hb
                  have hOe := RK.C.below hOs hb
                  have hBe := below_then hBs hBs.size hb
                  clear hMs hOs hLs hBs hb
                  go_wp2
                  go_roundw
                  case rel => exact ⟨k + 1, b', m2, L1, n9, d1, lo, Al, nl, cl, nx, by omega, by go_num, rfl, rfl, rfl, hnl6, HG2, HPM2, hMe, hLe, hOe, hBe⟩
                  case measure => simp [intOf]; omega
      · have hlt' : ¬ (k : Int) < (n : Int) := by omega
        go_wp2
        go_ret
        exact ⟨rfl, hB⟩
end Go.Proofs.YtjlkakggmfmfiaaDoor
