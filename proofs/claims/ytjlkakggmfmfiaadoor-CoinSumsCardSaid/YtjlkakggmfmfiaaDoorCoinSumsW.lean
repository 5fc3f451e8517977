/- CoinSums: for every row of blocks of pays the law's call returns true and changes nothing: no coin is made or lost. -/
import Derived.Test.YtjlkakggmfmfiaaDoorCoinS
set_option maxRecDepth 100000
set_option linter.unusedVariables false
namespace Go.Proofs.YtjlkakggmfmfiaaDoor
open Go Go.RowKit
/-- The set so far. -/
structure SetG (k : Nat) (m : List (Pt × Cn)) : Prop where
  ok : SetOk m
  rng : ∀ x ∈ m, 0 ≤ x.2.coins ∧ x.2.coins ≤ 65535
  len : m.length ≤ 36 * k
theorem SetG.nil : SetG 0 [] := ⟨fun x h => (nomatch h), fun x h => (nomatch h), Nat.le_refl _⟩
theorem SetG.mono {k : Nat} {m : List (Pt × Cn)} (h : SetG k m) : SetG (k + 1) m := ⟨h.ok, h.rng, by have := h.len; omega⟩
theorem SetG.top {k : Nat} {m : List (Pt × Cn)} (h : SetG k m) : ∀ x ∈ m, 0 ≤ x.2.coins ∧ x.2.coins ≤ topM := fun x hx => ⟨(h.rng x hx).1, by have := (h.rng x hx).2; unfold topM; omega⟩
theorem totU_rng : ∀ (us : List Us), (∀ u ∈ us, 0 ≤ u.coin.coins ∧ u.coin.coins ≤ 65535) → 0 ≤ totU us ∧ totU us ≤ 65535 * (us.length : Int)
  | [], _ => ⟨Int.le_refl _, Int.le_refl _⟩
  | u :: r, h => by
    obtain ⟨h1, h2⟩ := totU_rng r (fun x hx => h x (List.mem_cons_of_mem _ hx))
    have h3 := h u List.mem_cons_self
    rw [totU_cons, List.length_cons]
    omega
theorem tot_rng : ∀ (ms : List (Pt × Cn)), (∀ x ∈ ms, 0 ≤ x.2.coins ∧ x.2.coins ≤ 65535) → 0 ≤ tot ms ∧ tot ms ≤ 65535 * (ms.length : Int)
  | [], _ => ⟨Int.le_refl _, Int.le_refl _⟩
  | u :: r, h => by
    obtain ⟨h1, h2⟩ := tot_rng r (fun x hx => h x (List.mem_cons_of_mem _ hx))
    have h3 := h u List.mem_cons_self
    rw [tot_cons, List.length_cons]
    omega
theorem usCells_coins {u : Us} (h : UsOk u) : (usCells u)[35]? = some (.int .i64 u.coin.coins) := by
  have hl := ptL_length h.1.1.1 u.pt.2
  unfold usCells
  rw [List.getElem?_cons_succ, List.getElem?_cons_succ, List.getElem?_append_right (by rw [hl]; omega), hl]
  rfl
theorem mkCells_coins {x : Pt × Cn} (h : MkOk x) : (mkCells x)[33]? = some (.int .i64 x.2.coins) := by
  have hl := ptL_length h.1.1.1 x.1.2
  unfold mkCells
  rw [List.getElem?_append_right (by rw [hl]; omega), hl]
  rfl
theorem mem_delV {α β : Type} [BEq α] : ∀ {m : List (α × β)} {a : α} {x : α × β}, x ∈ delV m a → x ∈ m
  | [], a, x, h => by rw [delV] at h; cases h
  | (k, y) :: r, a, x, h => by
    rw [delV] at h
    split at h
    · exact List.mem_cons_of_mem _ h
    · rcases List.mem_cons.1 h with h | h
      · rw [h]; exact List.mem_cons_self
      · exact List.mem_cons_of_mem _ (mem_delV h)
theorem delV_length {α β : Type} [BEq α] : ∀ (m : List (α × β)) (a : α), (delV m a).length ≤ m.length
  | [], a => by rw [delV]; exact Nat.le_refl _
  | (k, y) :: r, a => by
    rw [delV]
    split
    · exact Nat.le_succ _
    · have := delV_length r a
      simp only [List.length_cons]
      omega
theorem mem_delAll : ∀ {us : List Us} {m : List (Pt × Cn)} {x : Pt × Cn}, x ∈ delAll m us → x ∈ m
  | [], m, x, h => h
  | u :: r, m, x, h => mem_delV (mem_delAll (us := r) (m := delV m u.pt) h)
theorem delAll_length : ∀ (us : List Us) (m : List (Pt × Cn)), (delAll m us).length ≤ m.length
  | [], m => Nat.le_refl _
  | u :: r, m => Nat.le_trans (delAll_length r (delV m u.pt)) (delV_length m u.pt)
theorem SetG.next {k : Nat} {m o ms : List (Pt × Cn)} {us : List Us} (h : SetG k m) (hp : m.Perm o) (hl : ms.length ≤ 36) (hk : ∀ x ∈ ms, MkOk x) (hc : ∀ x ∈ ms, 0 ≤ x.2.coins ∧ x.2.coins ≤ 65535) : SetG (k + 1) (delAll (putAll o ms) us) := by
  refine ⟨fun x hx => ?_, fun x hx => ?_, ?_⟩
  · rcases mem_putAll (mem_delAll hx) with hx | hx
    · exact h.ok x (hp.mem_iff.2 hx)
    · exact hk x hx
  · rcases mem_putAll (mem_delAll hx) with hx | hx
    · exact h.rng x (hp.mem_iff.2 hx)
    · exact hc x hx
  · have h1 := delAll_length us (putAll o ms)
    have h2 := putAll_length ms o
    have h3 := hp.length_eq
    have h4 := h.len
    omega
theorem marks_look (p : Pt) : ∀ (us : List Us) (m : List (Pt × Bool)), (us.foldl (fun m u => putV m u.pt true) m).lookup p = if p ∈ pts us then some true else m.lookup p
  | [], m => by simp [pts]
  | u :: r, m => by
    rw [List.foldl_cons, marks_look p r, lookup_putV]
    by_cases h1 : p ∈ pts r
    · have : p ∈ pts (u :: r) := List.mem_cons_of_mem _ h1
      rw [if_pos h1, if_pos this]
    · rw [if_neg h1]
      by_cases h2 : p = u.pt
      · have : p ∈ pts (u :: r) := by rw [h2]; exact List.mem_cons_self
        rw [if_pos this, if_pos (by rw [h2]; simp)]
      · have : p ∉ pts (u :: r) := fun h => by
          rcases List.mem_cons.1 h with h | h
          · exact h2 h
          · exact h1 h
        rw [if_neg this, if_neg (by simpa using h2)]
/-- What is left lies in the set behind the block. -/
theorem left_look {m o ms : List (Pt × Cn)} {us : List Us} {ids : List (List Int)} {fe : Int} {ts : List TTx} {lw : LwS} (hn : (keys m).Nodup) (hp : m.Perm o) (h : PlanOk m ts ⟨ids, us, ms, fe⟩ lw) : ∀ x ∈ keepF (marks us) ms, (delAll (putAll o ms) us).lookup x.1 = some x.2 := by
  intro x hx
  obtain ⟨h1, h2⟩ := keepF_mem hx
  have hp2 := applyF_perm ⟨ids, us, ms, fe⟩ hn hp
  have h3 : (applyF m ⟨ids, us, ms, fe⟩).lookup x.1 = (applyF o ⟨ids, us, ms, fe⟩).lookup x.1 := lookup_perm h.set hp2 x.1
  have h4 : x.1 ∉ pts us := fun hm => by
    unfold spentB marks at h2
    rw [marks_look, if_pos hm] at h2
    cases h2
  have h5 := h.left x.1
  rw [if_neg h4, h3] at h5
  show (applyF o ⟨ids, us, ms, fe⟩).lookup x.1 = _
  rw [h5]
  exact lookup_some_of h.nod (List.mem_append_right _ h1)
theorem eq_cn (c : Cn) (h : c.Ok) (W : World) : (Op.equalIn 10000 106 (.agg (cnCells c).toArray) (.agg (cnCells c).toArray)).run Tryd.prog W = .ok true W := by
  rw [run_equalIn_struct W 9999 106 _ _ (by kernel_rfl) (by kernel_rfl)]
  have hs : (nums .u8 c.script).length = 32 := by rw [nums_length]; exact h.sc.1
  have p0 := part_cell 2 .i64 Tryd.underlying2 (cnCells c) 0 (.int .i64 c.coins) rfl
  have p1 := part_hash (cnCells c) 1 c.script (by
    unfold cnCells
    rw [List.drop_succ_cons, List.drop_zero, List.take_left' hs])
  have p2 := part_cell 3 .i64 Tryd.underlying3 (cnCells c) 33 (.int .i64 c.height) (by
    unfold cnCells
    rw [show 33 = 32 + 1 from rfl, List.getElem?_cons_succ, List.getElem?_append_right (by rw [hs]; omega), hs]
    rfl)
  have p3 := part_cell 3 .i64 Tryd.underlying3 (cnCells c) 34 (.int .i64 (c.pos : Int)) (by
    unfold cnCells
    rw [show 34 = 33 + 1 from rfl, List.getElem?_cons_succ, List.getElem?_append_right (by rw [hs]; omega), hs]
    rfl)
  have e1 := eqHashN 9997 c.script h.sc.1
  simp only [Program.fieldsOf, Tryd.underlying106]
  simp [Op.eqFields, p0, p1, p2, p3, e1, run_equalIn_int _ 9998 _ _ _ _ _ Tryd.underlying3, run_equalIn_int _ 9998 _ _ _ _ _ Tryd.underlying2]
theorem plan_err {m : List (Pt × Cn)} (hn : (keys m).Nodup) {hd : Hd} {ts : List TTx} {hh : Int} (h0 : 0 ≤ hh) (h1 : hh ≤ 1073741824) {x : Int} (h : planF hd ts hh 0 m = .error x) : x ≠ 0 := by
  have hr := plan_law (List.Perm.refl m) hn hd ts hh h0 h1
  rw [h] at hr
  revert hr
  generalize lawF hd ts hh m = b
  intro hr
  match b, hr with
  | .error f, h => exact h.2
theorem plan_ne {m : List (Pt × Cn)} {hd : Hd} {ts : List TTx} {hh : Int} (h0 : 0 ≤ hh) (h1 : hh ≤ 1073741824) {d : Df} (h : planF hd ts hh 0 m = .ok d) : ∃ t r, ts = t :: r := by
  cases ts with
  | cons t r => exact ⟨t, r, rfl⟩
  | nil =>
    unfold planF at h
    rw [if_neg (by omega), if_pos (by unfold chkF; rw [if_pos (show first0 [] = false from rfl)]; decide)] at h
    cases h
set_option maxHeartbeats 16000000 in
theorem coinSums_core (w : World) (hT : Tabs w) (hN : Now w) (S : Nat → Prop) (A : Option Addr) (n c : Nat) (bs : List (List TPay)) (hnc : n ≤ c) (hcm : c ≤ maxLen) (hC : blksK.C S w A n bs) :
    Calls Tryd.prog 20 #[.slice A n c] w fun e w' => e = .returned (.bool true) ∧ Below w.heap.size w w' := by
  have hUB := Tryd.underlying64
  have hUD := Tryd.underlying99
  have hUS := Tryd.underlying108
  have hUT := Tryd.underlying69
  have hUU := Tryd.underlying124
  have hUK := Tryd.underlying130
  have hUP := Tryd.underlying77
  have hUC := Tryd.underlying106
  have hcm' := hcm
  unfold maxLen at hcm'
  have hnI : (n : Int) ≤ 9223372036854775807 := by omega
  have HL := Lib.hid hC.len
  go_enter Tryd.func20, Tryd.ntmps20
  go_wp2_with fail
  refine (head19_calls w hT hN).mono ?_
  rintro e w1 ⟨rfl, hb1⟩
  go_wp2_with fail
  refine (big19_calls w1 S A n c bs hnc hcm (RK.C.below hC hb1)).mono ?_
  rintro e w2 ⟨bb, rfl, hsm, hb2⟩
  have hB2 := below_then hb1 hb1.size hb2
  clear hb1 hb2
  cases bb with
  | true =>
    clear hsm
    go_wp2
    go_ret
    exact ⟨rfl, hB2⟩
  | false =>
    have HBO : Hid (BlksOk bs) := Lib.hid (hsm rfl)
    have hn8 : n ≤ 8 := by have := HBO.out.1; have := HL.out; omega
    clear hsm
    have hm0 : SetV (w2.alloc (.map #[] 0)) w2.heap.size [] := MapV.made w2
    have hbm : Below w.heap.size w (w2.alloc (.map #[] 0)) := hB2.alloc hB2.size _
    have km := run_makeMap (P := Tryd.prog) 108 w2
    go_upto_region 6 with fail
    clear km
    refine wp_gen (q := fun wi => SetV wi w2.heap.size [] ∧ Below w.heap.size w wi) ⟨hm0, hbm⟩ (fun w3 hw => ?_)
    clear hm0 hbm
    obtain ⟨hM3, hB3⟩ := hw
    go_upto_region 7 with fail
    refine wp_gen (q := fun wi => SetV wi w2.heap.size [] ∧ Below w.heap.size w wi) ⟨hM3.below ((Below.refl _ _).alloc (Nat.le_refl _) _), hB3.alloc hB3.size _⟩ (fun w4 hw => ?_)
    clear hM3 hB3
    obtain ⟨hM4, hB4⟩ := hw
    have HG0 : Hid (SetG 0 []) := Lib.hid SetG.nil
    have hO4 : ptK.C (fun _ => True) w4 (some ⟨w3.heap.size, 0, none⟩) 0 [] := RK.C.nil _ _ _ _
    go_wp2
    go_loopw [3, 4, 37] (fun v3 v4 v37 wr => ∃ (k b : Nat) (m : List (Pt × Cn)) (Ao : Option Addr) (no co : Nat) (outs : List Pt), k ≤ n ∧ v37 = .int .i64 k ∧ v3 = .map (some b) ∧ v4 = .slice Ao no co ∧ no ≤ 36 * k ∧ Hid (SetG k m) ∧ SetV wr b m ∧ ptK.C (fun _ => True) wr Ao no outs ∧ Below w.heap.size w wr) (fun _ _ v _ => n - (intOf v).toNat)
    case atStart => exact ⟨0, w2.heap.size, [], some ⟨w3.heap.size, 0, none⟩, 0, 0, [], by omega, rfl, rfl, rfl, by omega, HG0, hM4, hO4, hB4⟩
    case round =>
      clear hB2 hM4 hB4 HG0 hO4
      obtain ⟨k, b, m, Ao, no, co, outs, hk, rfl, rfl, rfl, hno, HG, hM, hO, hB⟩ := hrel
      rename World => wo
      by_cases hlt : k < n
      · have hlt' : (k : Int) < (n : Int) := by omega
        have hkk : (0 : Int) ≤ (k : Int) := by omega
        obtain ⟨b1, o1, cs, ps, hA, hx, ⟨P1, np, pc, rfl, hpc, hpm, hP⟩, hcx⟩ := (RK.C.below hC hB).get k hlt
        subst hA
        have hcl : wo.cell? ⟨b1, o1 + k, none⟩ = some (.slice P1 np pc) := by
          have := hcx 0 _ (show [Value.slice P1 np pc][0]? = some (.slice P1 np pc) from rfl)
          rwa [show (RK.slice payK).sz = 1 from rfl, Nat.mul_one, Nat.add_zero] at this
        have hpo : PaysOk ps := HBO.out.2 ps (List.mem_of_getElem? hx)
        have HSM := Lib.hid (bldT_sums (k : Int) ps 0 outs hpo.2)
        have HOL := Lib.hid hO.len
        have HPO := Lib.hid hpo
        have hBld := build_calls wo (hT.below hB) (hN.below hB) S (fun _ => True) P1 np pc ps hpc hpm hP hpo Ao no co outs (by omega) hO (k : Int) (k : Int) (cs_u32wrap k (by omega)) (by omega) (by omega)
        obtain ⟨bt, hbt⟩ : ∃ bt, bldT (k : Int) 0 ps outs = bt := ⟨_, rfl⟩
        rw [hbt] at hBld HSM
        obtain ⟨ts, nx⟩ := bt
        clear hbt hx hcx hpo hP
        go_wp2_with fail
        refine hBld.mono ?_
        rintro e w5 ⟨hb5, At, ct, Al, cl, rfl, hle, hct, hTx, hPt⟩
        obtain ⟨hh, hhE⟩ : ∃ hh, bldH (k : Int) ts = hh := ⟨_, rfl⟩
        have hok : hh.Ok := by rw [← hhE]; exact bldH_ok (by omega) (by omega) _
        simp only [hhE]
        simp only at hle hTx hPt HSM
        obtain ⟨nt, hnt⟩ : ∃ nt, ts.length = nt := ⟨_, rfl⟩
        obtain ⟨nl, hnl⟩ : ∃ nl, nx.length = nl := ⟨_, rfl⟩
        rw [hnt] at hle hTx ⊢
        rw [hnl] at hPt ⊢
        have hnt6 : nt ≤ 6 := by have := HSM.out.2.2.2.1; have := HPO.out.1; omega
        have hnl6 : nl ≤ 36 * (k + 1) := by have := HSM.out.2.2.1; have := HPO.out.1; have := HOL.out; omega
        have hiB := info_blkA hok At nt ct
        have hBw5 := below_then hB hB.size hb5
        have hM5 := hM.below hb5
        have hOo5 := RK.C.below hO hb5
        have HNT := Lib.hid hnt
        have HNL := Lib.hid hnl
        clear hBld hhE hcl hb5 hM hO hnt hnl
        go_upto_region 11 with (first
          | ((with_reducible refine wpList_atS 7 ?_); refine wpList_store_any rfl 64 (.tmp 7) (.tmp 47) rfl w5.heap.size (blkCells hh At nt ct).toArray rfl rfl 64 (blkCells hd0 none 0 0).toArray (heap_alloc_new _ _) hiB (by rw [List.size_toArray, List.size_toArray, blkCells_length hok, blkCells_length hd0_ok]) (blkCells_all hh At nt ct) ?_; intro w6 gB6 ht6))
        have hb6 : Below w5.heap.size w5 w6 := ht6.below ((Below.refl _ _).alloc (Nat.le_refl _) _) (Nat.le_refl _)
        have hB6 := below_then hBw5 hBw5.size hb6
        have hTx6 := RK.C.below hTx hb6
        have hO6 : ptK.C (fun _ => True) w6 Al nl nx := RK.C.below (RK.Own.C_ (S' := fun _ => True) hPt (fun _ _ => trivial) (fun _ _ => trivial)) hb6
        have hM6 := hM5.below hb6
        have hOo6 := RK.C.below hOo5 hb6
        have hlB := heap_lt gB6
        clear ht6 hTx hPt hM5 hb6 hBw5 hOo5
        have hPl := plan_calls w6 (hT.below hB6) (hN.below hB6) (setV b) 0 m (fun w => SetV w b m) (set_view HG.out.ok HG.out.top) hM6 (fun q => wo.heap.size ≤ q) hh hok At nt ct ts hle hct (by omega) hTx6 (k : Int)
        have HPS := Lib.hid (fun d (h : planF hh ts (k : Int) 0 m = .ok d) => plan_sum (by omega) (by omega) h)
        have HPN := Lib.hid (fun d (h : planF hh ts (k : Int) 0 m = .ok d) => plan_ne (by omega) (by omega) h)
        have HPK := Lib.hid (fun d (h : planF hh ts (k : Int) 0 m = .ok d) => plan_ok hM6.apart (by omega) (by omega) h)
        have HPE := Lib.hid (fun x (h : planF hh ts (k : Int) 0 m = .error x) => plan_err hM6.apart (by omega) (by omega) h)
        obtain ⟨pr, hpr⟩ : ∃ pr, planF hh ts (k : Int) 0 m = pr := ⟨_, rfl⟩
        rw [hpr] at hPl HPS HPK HPE HPN
        clear hpr
        go_wp2_with (first
          | ((with_reducible refine wpList_at 50 ?_); refine wpList_load_row rfl 64 (.tmp 7) rfl w5.heap.size rfl 64 _ _ _ gB6 hUB rfl hiB ?_))
        refine hPl.mono ?_
        clear hPl
        rintro e w7 ⟨hb7, hpp⟩
        have hB7 := below_then hB6 hB6.size hb7
        have gB7 := heap_below hb7 gB6
        have hM7 := hM6.below hb7
        have hOo7 := RK.C.below hOo6 hb7
        clear gB6 hB6 hM6 hOo6
        match pr, hpp with
        | .error x, hpp =>
          obtain rfl : e = _ := hpp
          have hx0 : (x != 0) = true := by rw [bne_iff_ne]; exact HPE.out x rfl
          have HG' := Lib.hid HG.out.mono
          clear HPE HPS HPK HPN
          go_wp2_with (first
            | ((with_reducible refine wpList_atS 9 ?_); refine wpList_store_any rfl 99 (.tmp 9) (.tmp 55) rfl w7.heap.size dz rfl rfl 99 dz (heap_alloc_new _ _) (info_d _ _ _ _) rfl (one_d _ _ _ _ _ _ _ _ _ _) ?_; intro w8 gE8 ht8))
          have hb8 : Below w7.heap.size w7 w8 := ht8.below ((Below.refl _ _).alloc (Nat.le_refl _) _) (Nat.le_refl _)
          have hM8 := hM7.below hb8
          have hO8 := RK.C.below hOo7 hb8
          have hB8 := below_then hB7 hB7.size hb8
          clear hM7 hOo7 hB7 hb8 ht8 gE8 gB7
          go_roundw
          case rel => exact ⟨k + 1, b, m, Ao, no, co, outs, by omega, by go_num, rfl, rfl, by omega, HG', hM8, hO8, hB8⟩
          case measure => simp [intOf]; omega
        | .ok d, hpp =>
          obtain ⟨lw, hPK⟩ := HPK.out d rfl
          have hPS := HPS.out d rfl
          obtain ⟨t0, tr, hts⟩ := HPN.out d rfl
          have HTS := Lib.hid hts
          clear hts
          obtain ⟨ids, us, ms, fe⟩ := d
          obtain ⟨A1, c1, A2, c2, A3, c3, rfl, -, hU, hK⟩ := hpp
          simp only at hU hK
          simp only
          have hus : us.length ≤ 36 := by have := hPS.uses; have := HSM.out.1; have := HPO.out.1; simp only at *; omega
          have hms : ms.length ≤ 36 := by have := hPS.makes; have := HSM.out.2.1; have := HPO.out.1; simp only at *; omega
          have HMC : Hid (∀ x ∈ ms, 0 ≤ x.2.coins ∧ x.2.coins ≤ 65535) := Lib.hid (fun x hx => by
            obtain ⟨t, ht, o, ho, e⟩ := hPS.mem x hx
            rw [e]
            exact HSM.out.2.2.2.2 t ht o ho)
          have HUC : Hid (∀ u ∈ us, 0 ≤ u.coin.coins ∧ u.coin.coins ≤ 65535) := Lib.hid (fun u hu => by
            have h1 := lookup_mem (hPK.coin u hu)
            rcases List.mem_append.1 h1 with h1 | h1
            · exact HG.out.rng _ h1
            · exact HMC.out _ h1)
          have HSUM := Lib.hid hPS.sum
          simp only at HSUM
          have HOKC := Lib.hid hPS.okc
          have HPKK := Lib.hid hPK
          have HUL := Lib.hid (RK.Own.le_ hU)
          obtain ⟨n2, hn2⟩ : ∃ n2, us.length = n2 := ⟨_, rfl⟩
          obtain ⟨n3, hn3⟩ : ∃ n3, ms.length = n3 := ⟨_, rfl⟩
          obtain ⟨ni, hni⟩ : ∃ ni, ids.length = ni := ⟨_, rfl⟩
          rw [hn2] at hU hus HUL ⊢
          rw [hn3] at hK hms ⊢
          rw [hni]
          have HN2 := Lib.hid hn2
          have HN3 := Lib.hid hn3
          clear hPK hPS HPE HPS HPK HPN hn2 hn3 hni
          go_upto_region 12 with (first
            | ((with_reducible refine wpList_atS 9 ?_); refine wpList_store_any rfl 99 (.tmp 9) (.tmp 55) rfl w7.heap.size #[.slice A1 ni c1, .slice A2 n2 c2, .slice A3 n3 c3, .int .i64 fe] rfl rfl 99 dz (heap_alloc_new _ _) (info_d _ _ _ _) rfl (one_d _ _ _ _ _ _ _ _ _ _) ?_; intro w8 gD8 ht8))
          have hb8 : Below w7.heap.size w7 w8 := ht8.below ((Below.refl _ _).alloc (Nat.le_refl _) _) (Nat.le_refl _)
          have hM8 := hM7.below hb8
          have hO8 : ptK.C (fun _ => True) w8 Al nl nx := RK.C.below (RK.C.below hO6 hb7) hb8
          have hTx8 := RK.C.below (RK.C.below hTx6 hb7) hb8
          have hU8 : usK.C (fun _ => True) w8 A2 n2 us := RK.C.below (RK.Own.C_ (S' := fun _ => True) hU (fun _ h => h.elim) (fun _ _ => trivial)) hb8
          have hK8 := hK.below hb8
          have hB8 := below_then hB7 hB7.size hb8
          have gB8 := heap_below hb8 gB7
          have hlD := heap_lt gD8
          have tS8 : w8.cell? ⟨w5.heap.size, 68, none⟩ = some (.slice At nt ct) := blk_cell gB8 (by rw [List.getElem?_toArray]; exact blkCells_at hok At nt ct)
          clear hM7 hO6 hTx6 hU hK hB7 hb7 hb8 ht8 gB7 hOo7
          have hnt0 : 0 < nt := by have := HNT.out; rw [HTS.out] at this; simp only [List.length_cons] at this; omega
          have hnt0' : (0 : Int) < (nt : Int) := by omega
          obtain ⟨bt, ot, cst, y, hAt, hy, hKy, hcy⟩ := hTx8.get 0 hnt0
          subst hAt
          obtain rfl : t0 = y := by rw [HTS.out] at hy; simpa using hy
          obtain ⟨Y1, yc1, Y2, yc2, rfl, y1, y2, y3, y4, _, _⟩ := txK_form hKy
          rw [Nat.zero_mul, Nat.add_zero] at hcy
          have hry : w8.rangeAt bt ot [.int .i32 t0.ver, .slice Y1 t0.ins.length yc1, .slice Y2 t0.outs.length yc2, .int .u32 t0.lock] := hcy
          have hi4 := info_tx4 (.int .i32 t0.ver) (.slice Y1 t0.ins.length yc1) (.slice Y2 t0.outs.length yc2) (.int .u32 t0.lock)
          obtain ⟨hcv, hz0, hz1, -⟩ := okC_sum (HOKC.out t0 (by rw [HTS.out]; exact List.mem_cons_self))
          have hCo := coins_calls w8 _ t0 [.int .i32 t0.ver, .slice Y1 t0.ins.length yc1, .slice Y2 t0.outs.length yc2, .int .u32 t0.lock] hKy
          rw [hcv] at hCo
          have HSUM' : Hid (tot ms = totU us - fe + outSum t0) := Lib.hid (by have := HSUM.out; rw [HTS.out] at this; exact this)
          obtain ⟨f0, hf0⟩ : ∃ f0, outSum t0 = f0 := ⟨_, rfl⟩
          rw [hf0] at hCo HSUM' hz0 hz1
          clear HSUM hcv hf0 hy hcy hTx8 hKy
          go_wp2_with (first
            | ((with_reducible refine wpList_at 63 ?_); refine wpList_load_mid rfl 69 (.tmp 62) rfl bt ot rfl [.int .i32 t0.ver, .slice Y1 t0.ins.length yc1, .slice Y2 t0.outs.length yc2, .int .u32 t0.lock] _ hry hUT rfl hi4 ?_))
          refine hCo.mono ?_
          clear hCo
          rintro e w9 ⟨rfl, hb9⟩
          have hM9 := hM8.below hb9
          have hO9 := RK.C.below hO8 hb9
          have hU9 := RK.C.below hU8 hb9
          have hK9 := hK8.below hb9
          have hB9 := below_then hB8 hB8.size hb9
          have gD9 := heap_below hb9 gD8
          have hl9 := hb9.size
          clear hM8 hO8 hU8 hK8 hB8 hb9 gD8 gB8 hry tS8
          go_upto_region 16 with fail
          have tU9 : w9.cell? ⟨w7.heap.size, 1, none⟩ = some (.slice A2 n2 c2) := blk_cell gD9 rfl
          have hn2I : (n2 : Int) ≤ 36 := by omega
          have hn3I : (n3 : Int) ≤ 36 := by omega
          go_wp2
          go_loopw [13, 70] (fun v13 v70 wr => ∃ i : Nat, i ≤ n2 ∧ v70 = .int .i64 i ∧ v13 = .int .i64 (totU (us.take i)) ∧ Below w9.heap.size w9 wr) (fun _ v _ => n2 - (intOf v).toNat)
          case atStart => exact ⟨0, by omega, rfl, rfl, Below.refl _ _⟩
          case round =>
            obtain ⟨i, hi, rfl, rfl, hb⟩ := hrel
            by_cases hil : i < n2
            · have hil' : (i : Int) < (n2 : Int) := by omega
              have hii : (0 : Int) ≤ (i : Int) := by omega
              obtain ⟨b3, o3, cs, u, hA, hx, ⟨rfl, huk⟩, hc⟩ := (RK.C.below hU9 hb).get i hil
              have hr : wr.rangeAt b3 (o3 + i * 70) (usCells u) := hc
              have i1 := info_us huk
              have i2 := info_usA huk
              obtain ⟨z, hz⟩ : ∃ z, totU (us.take i) = z := ⟨_, rfl⟩
              obtain ⟨hu0, hu1⟩ := HUC.out u (List.mem_of_getElem? hx)
              have hzr := totU_rng (us.take i) (fun u hu => HUC.out u (List.mem_of_mem_take hu))
              rw [hz, List.length_take] at hzr
              have hz0' : 0 ≤ z := hzr.1
              have hz1' : z ≤ 2359260 := by have := hzr.2; omega
              have HX : Hid (totU (us.take (i + 1)) = z + u.coin.coins) := Lib.hid (by rw [totU_take hx, hz])
              obtain ⟨zc, hzc⟩ : ∃ zc, u.coin.coins = zc := ⟨_, rfl⟩
              have hq := usCells_coins huk
              rw [hzc] at hu0 hu1 HX hq
              rw [hz]
              subst hA
              clear hc hx hzr hz hzc
              go_upto_region 19 with (first
                | ((with_reducible refine wpList_at 73 ?_); refine wpList_load_mid rfl 124 (.tmp 72) rfl b3 (o3 + i * 70) rfl (usCells u) _ hr hUU rfl i1 ?_)
                | ((with_reducible refine wpList_atS 16 ?_); refine wpList_store_any rfl 124 (.tmp 16) (.tmp 73) rfl wr.heap.size (usCells u).toArray rfl rfl 124 (usCells us0).toArray (heap_alloc_new _ _) i2 (size_us us0_ok huk) (usCells_all _) ?_; intro wx gx htx))
              have hbx : Below wr.heap.size wr wx := htx.below ((Below.refl _ _).alloc (Nat.le_refl _) _) (Nat.le_refl _)
              have hbB := below_then hb hb.size hbx
              have tq : wx.cell? ⟨wr.heap.size, 35, none⟩ = some (.int .i64 zc) := blk_cell gx (by rw [List.getElem?_toArray]; exact hq)
              clear gx htx hbx hb hr hq
              go_wp2
              go_roundw
              case rel => exact ⟨i + 1, by omega, by go_num, by rw [HX.out], hbB⟩
              case measure => simp [intOf]; omega
            · have hil' : ¬ (i : Int) < (n2 : Int) := by omega
              obtain rfl : n2 = i := by omega
              rw [List.take_of_length_le (by rw [HN2.out]; omega)]
              rename World => wp
              have hMp := hM9.below hb
              have hOp := RK.C.below hO9 hb
              have hUp := RK.C.below hU9 hb
              have hKp := hK9.below hb
              have hBp := below_then hB9 hB9.size hb
              have gDp := heap_below hb gD9
              have hlp := hb.size
              clear hM9 hO9 hU9 hK9 hB9 gD9 hb tU9
              have tM : wp.cell? ⟨w7.heap.size, 2, none⟩ = some (.slice A3 n3 c3) := blk_cell gDp rfl
              have hKc := RK.Own.C_ (S' := fun _ => True) hKp (fun _ h => h.elim) (fun _ _ => trivial)
              obtain ⟨zi, hzi⟩ : ∃ zi, totU us = zi := ⟨_, rfl⟩
              have hzir := totU_rng us HUC.out
              rw [HN2.out] at hzir
              rw [hzi] at hzir HSUM' ⊢
              have hzi0 : 0 ≤ zi := hzir.1
              have hzi1 : zi ≤ 2359260 := by have := hzir.2; omega
              have HZI := Lib.hid hzi
              clear hzir hzi
              go_wp2
              go_loopw [14, 83] (fun v14 v83 wr => ∃ i : Nat, i ≤ n3 ∧ v83 = .int .i64 i ∧ v14 = .int .i64 (tot (ms.take i)) ∧ Below wp.heap.size wp wr) (fun _ v _ => n3 - (intOf v).toNat)
              case atStart => exact ⟨0, by omega, rfl, rfl, Below.refl _ _⟩
              case round =>
                obtain ⟨i, hi, rfl, rfl, hb⟩ := hrel
                by_cases hil : i < n3
                · have hil' : (i : Int) < (n3 : Int) := by omega
                  have hii : (0 : Int) ≤ (i : Int) := by omega
                  obtain ⟨b3, o3, cs, x, hA, hx, ⟨rfl, hxk⟩, hc⟩ := (RK.C.below hKc hb).get i hil
                  have hr : wr.rangeAt b3 (o3 + i * 68) (mkCells x) := hc
                  have i1 := info_mk hxk
                  have i2 := info_mkA hxk
                  obtain ⟨z, hz⟩ : ∃ z, tot (ms.take i) = z := ⟨_, rfl⟩
                  obtain ⟨hu0, hu1⟩ := HMC.out x (List.mem_of_getElem? hx)
                  have hzr := tot_rng (ms.take i) (fun u hu => HMC.out u (List.mem_of_mem_take hu))
                  rw [hz, List.length_take] at hzr
                  have hz0' : 0 ≤ z := hzr.1
                  have hz1' : z ≤ 2359260 := by have := hzr.2; omega
                  have HX : Hid (tot (ms.take (i + 1)) = z + x.2.coins) := Lib.hid (by rw [tot_take hx, hz])
                  obtain ⟨zc, hzc⟩ : ∃ zc, x.2.coins = zc := ⟨_, rfl⟩
                  have hq := mkCells_coins hxk
                  rw [hzc] at hu0 hu1 HX hq
                  rw [hz]
                  subst hA
                  clear hc hx hzr hz hzc
                  go_upto_region 24 with (first
                    | ((with_reducible refine wpList_at 86 ?_); refine wpList_load_mid rfl 130 (.tmp 85) rfl b3 (o3 + i * 68) rfl (mkCells x) _ hr hUK rfl i1 ?_)
                    | ((with_reducible refine wpList_atS 18 ?_); refine wpList_store_any rfl 130 (.tmp 18) (.tmp 86) rfl wr.heap.size (mkCells x).toArray rfl rfl 130 (mkCells mk0).toArray (heap_alloc_new _ _) i2 (size_mk mk0_ok hxk) (mkCells_all _) ?_; intro wx gx htx))
                  have hbx : Below wr.heap.size wr wx := htx.below ((Below.refl _ _).alloc (Nat.le_refl _) _) (Nat.le_refl _)
                  have hbB := below_then hb hb.size hbx
                  have tq : wx.cell? ⟨wr.heap.size, 33, none⟩ = some (.int .i64 zc) := blk_cell gx (by rw [List.getElem?_toArray]; exact hq)
                  clear gx htx hbx hb hr hq
                  go_wp2
                  go_roundw
                  case rel => exact ⟨i + 1, by omega, by go_num, by rw [HX.out], hbB⟩
                  case measure => simp [intOf]; omega
                · have hil' : ¬ (i : Int) < (n3 : Int) := by omega
                  obtain rfl : n3 = i := by omega
                  rw [List.take_of_length_le (by rw [HN3.out]; omega)]
                  rename World => wq
                  have hMq := hMp.below hb
                  have hOq := RK.C.below hOp hb
                  have hUq := RK.C.below hUp hb
                  have hKq := hKp.below hb
                  have hBq := below_then hBp hBp.size hb
                  have gDq := heap_below hb gDp
                  have hlq := hb.size
                  clear hMp hOp hUp hKp hBp gDp hb tM hKc
                  obtain ⟨zo, hzo⟩ : ∃ zo, tot ms = zo := ⟨_, rfl⟩
                  have hzor := tot_rng ms HMC.out
                  rw [HN3.out] at hzor
                  rw [hzo] at hzor HSUM' ⊢
                  have hzo0 : 0 ≤ zo := hzor.1
                  have hzo1 : zo ≤ 2359260 := by have := hzor.2; omega
                  have HZO := Lib.hid hzo
                  have hz1u : f0 ≤ 2100000000000000 := hz1
                  have hs0 : -2100000000000000 ≤ zi - fe := by have := HSUM'.out; omega
                  have hs1 : zi - fe ≤ 2359260 := by have := HSUM'.out; omega
                  have HQ : (zo != zi - fe + f0) = false := by rw [HSUM'.out]; simp
                  have tF : wq.cell? ⟨w7.heap.size, 3, none⟩ = some (.int .i64 fe) := blk_cell gDq rfl
                  clear hzor hzo
                  go_wp2_with ((with_reducible refine wpList_at 102 ?_); refine wpList_rangeV rfl (.tmp 101) 108 77 106 rfl hUS rfl hMq ?_; intro wa hra hba hsa; go_frame)
                  have hUa := RK.C.below hUq hba
                  have hml : m.length ≤ 288 := by have := HG.out.len; omega
                  have HW0 : Hid (tot m = 0 + tot m) := Lib.hid (by omega)
                  have hLq := hMq.lt
                  clear tF hs0 hs1 HQ
                  go_loopw [19] (fun v19 wr => ∃ (lft : List (Pt × Cn)) (z : Int), RangeV PtOk wr b wq.heap.size pkv cnv m lft ∧ v19 = .int .i64 z ∧ 0 ≤ z ∧ Hid (tot m = z + tot lft) ∧ Below wq.heap.size wq wr) (fun _ wr => wr.rangeLeft b wq.heap.size)
                  case atStart => exact ⟨m, 0, hra, rfl, Int.le_refl _, HW0, hba⟩
                  case round =>
                    clear hra hUa HW0 hsa hba
                    obtain ⟨lft, z, hr, rfl, hz0', HW, hb⟩ := hrel
                    go_wp2_with ((with_reducible refine wpList_at 103 ?_); refine wpList_nextV rfl (.tmp 102) rfl rfl hr ?_ ?_)
                    · intro hl0
                      subst hl0
                      have HWE : Hid (tot m = z) := Lib.hid (by rw [HW.out]; show z + 0 = z; omega)
                      rename World => wr1
                      have hMr := hr.mapV
                      have hOr := RK.C.below hOq hb
                      have hUr := RK.C.below hUq hb
                      have hKr := hKq.below hb
                      have hBr := below_then hBq hBq.size hb
                      have gDr := heap_below hb gDq
                      have hlr := hb.size
                      have hKc := RK.Own.C_ (S' := fun _ => True) hKr (fun _ h => h.elim) (fun _ _ => trivial)
                      have HMK : Hid (∀ x ∈ ms, MkOk x) := Lib.hid (fun x hx => by
                        obtain ⟨i, hi, rfl⟩ := List.mem_iff_getElem.1 hx
                        obtain ⟨_, _, _, y, _, hy, ⟨_, hk⟩, _⟩ := hKc.get i (by rw [← HN3.out]; exact hi)
                        rw [List.getElem?_eq_getElem hi] at hy
                        exact Option.some.inj hy ▸ hk)
                      have hzm : z ≤ 18874080 := by
                        have h1 := tot_rng m HG.out.rng
                        have := HWE.out
                        omega
                      have hAp := apply_calls wr1 (fun _ => True) (fun _ => True) b m hMr HG.out.ok (by omega) (.slice A1 ni c1) A2 A3 n2 c2 n3 c3 fe us ms (by omega) hUr (by omega) hKc
                      have iD := info_d (.slice A1 ni c1) (.slice A2 n2 c2) (.slice A3 n3 c3) (.int .i64 fe)
                      have HNOD := Lib.hid hMr.apart
                      clear hMq hOq hUq hKq hBq gDq hb hr hKc HW
                      go_wp2_with (first
                        | ((with_reducible refine wpList_at 112 ?_); refine wpList_load_row rfl 99 (.tmp 9) rfl w7.heap.size rfl 99 _ _ _ gDr hUD rfl iD ?_))
                      refine hAp.mono ?_
                      clear hAp
                      rintro e ws ⟨b', o, rfl, hb'0, hPo, hMs, hbs⟩
                      have HG2 : Hid (SetG (k + 1) (delAll (putAll o ms) us)) := Lib.hid (HG.out.next hPo (by have := HN3.out; omega) HMK.out HMC.out)
                      have HTOT : Hid (tot (delAll (putAll o ms) us) = z + f0 - fe) := Lib.hid (by
                        have h1 : tot (delAll (putAll o ms) us) = tot m + tot ms - totU us := tot_apply HNOD.out HPKK.out hPo
                        rw [h1, HWE.out, HZO.out, HZI.out]
                        have := HSUM'.out
                        omega)
                      have HLK : Hid (∀ x ∈ keepF (marks us) ms, (delAll (putAll o ms) us).lookup x.1 = some x.2) := Lib.hid (left_look HNOD.out hPo HPKK.out)
                      obtain ⟨m2, hm2⟩ : ∃ m2, delAll (putAll o ms) us = m2 := ⟨_, rfl⟩
                      rw [hm2] at hMs HG2 HTOT HLK
                      have hOs := RK.C.below hOr hbs
                      have hUs := RK.C.below hUr hbs
                      have hKs := hKr.below hbs
                      have hBs := below_then hBr hBr.size hbs
                      have gDs := heap_below hbs gDr
                      have hls := hbs.size
                      clear hMr hOr hUr hKr hBr gDr hbs hm2 hPo
                      go_wp2_with ((with_reducible refine wpList_at 115 ?_); refine wpList_rangeV rfl (.tmp 114) 108 77 106 rfl hUS rfl hMs ?_; intro wa hra hba hsa; go_frame)
                      have hm2l : m2.length ≤ 324 := by have := HG2.out.len; omega
                      have HW0 : Hid (tot m2 = 0 + tot m2) := Lib.hid (by omega)
                      have hLs := hMs.lt
                      go_loopw [22] (fun v22 wr => ∃ (lft : List (Pt × Cn)) (z : Int), RangeV PtOk wr b' ws.heap.size pkv cnv m2 lft ∧ v22 = .int .i64 z ∧ 0 ≤ z ∧ Hid (tot m2 = z + tot lft) ∧ Below ws.heap.size ws wr) (fun _ wr => wr.rangeLeft b' ws.heap.size)
                      case atStart => exact ⟨m2, 0, hra, rfl, Int.le_refl _, HW0, hba⟩
                      case round =>
                        clear hra HW0 hsa hba
                        obtain ⟨lft, y, hr, rfl, hy0', HW, hb⟩ := hrel
                        go_wp2_with ((with_reducible refine wpList_at 116 ?_); refine wpList_nextV rfl (.tmp 115) rfl rfl hr ?_ ?_)
                        · intro hl0
                          subst hl0
                          have HWF : Hid (y = z + f0 - fe) := Lib.hid (by rw [← HTOT.out, HW.out]; show y = y + 0; omega)
                          rename World => wt
                          have hMt := hr.mapV
                          have hOt := RK.C.below hOs hb
                          have hUt := RK.C.below hUs hb
                          have hKt := hKs.below hb
                          have hBt := below_then hBs hBs.size hb
                          have gDt := heap_below hb gDs
                          have tF : wt.cell? ⟨w7.heap.size, 3, none⟩ = some (.int .i64 fe) := blk_cell gDt rfl
                          have hym : y ≤ 21233340 := by
                            have h1 := tot_rng m2 HG2.out.rng
                            have := HW.out
                            have h2 : tot ([] : List (Pt × Cn)) = 0 := rfl
                            omega
                          have hs0 : 0 ≤ z + f0 := by omega
                          have hs1 : z + f0 ≤ 2100018874080 * 1000 := by omega
                          have hs2 : 0 ≤ z + f0 - fe := by have := HWF.out; omega
                          have hs3 : z + f0 - fe ≤ 21233340 := by have := HWF.out; omega
                          have HQ : (y != z + f0 - fe) = false := by rw [HWF.out]; simp
                          have hLf := left_calls wt (fun _ => True) _ (.slice A1 ni c1) A2 A3 n2 c2 n3 c3 fe us ms HUL.out.1 HUL.out.2 (by omega) hUt (by omega) hKt
                          clear hMs hOs hUs hKs hBs gDs hb hr HW hUt hKt
                          go_wp2_with (first
                            | ((with_reducible refine wpList_at 132 ?_); refine wpList_load_row rfl 99 (.tmp 9) rfl w7.heap.size rfl 99 _ _ _ gDt hUD rfl iD ?_))
                          refine hLf.mono ?_
                          clear hLf
                          rintro e wl ⟨A', mm, c', rfl, hLo, hbl⟩
                          have hMl := hMt.below hbl
                          have hOl := RK.C.below hOt hbl
                          have hBl := below_then hBt hBt.size hbl
                          have hLl := RK.Own.le_ hLo
                          have hLn := RK.Own.len hLo
                          have hmml : mm ≤ 36 := by
                            rw [← hLn]
                            unfold keepF
                            have := List.length_filter_le (fun x => !spentB (marks us) x) ms
                            have := HN3.out
                            omega
                          have hmmI : (mm : Int) ≤ 36 := by omega
                          have hLc := RK.Own.C_ (S' := fun _ => True) hLo (fun _ h => h.elim) (fun _ _ => trivial)
                          obtain ⟨L, hL⟩ : ∃ L, keepF (marks us) ms = L := ⟨_, rfl⟩
                          rw [hL] at hLc HLK hLn
                          have HLN := Lib.hid hLn
                          clear tF hs0 hs1 hs2 hs3 HQ hMt hOt hBt gDt hbl hLo hL hLn hLl
                          go_wp2
                          go_loopw [135] (fun v135 wr => ∃ i : Nat, i ≤ mm ∧ v135 = .int .i64 i ∧ Below wl.heap.size wl wr) (fun v _ => mm - (intOf v).toNat)
                          case atStart => exact ⟨0, by omega, rfl, Below.refl _ _⟩
                          case round =>
                            obtain ⟨i, hi, rfl, hb⟩ := hrel
                            by_cases hil : i < mm
                            · have hil' : (i : Int) < (mm : Int) := by omega
                              have hii : (0 : Int) ≤ (i : Int) := by omega
                              obtain ⟨b3, o3, cs, x, hA, hx, ⟨rfl, hxk⟩, hc⟩ := (RK.C.below hLc hb).get i hil
                              have hr : wr.rangeAt b3 (o3 + i * 68) (mkCells x) := hc
                              have i1 := info_mk hxk
                              have i2 := info_mkA hxk
                              have ip := info_pt hxk.1.1.1 x.1.2
                              have ic := info_cn hxk.2
                              have icA := info_cnA hxk.2
                              have HXL := HLK.out x (List.mem_of_getElem? hx)
                              have HEQ := eq_cn x.2 hxk.2
                              subst hA
                              clear hc hx
                              go_upto_region 44 with (first
                                | ((with_reducible refine wpList_at 138 ?_); refine wpList_load_mid rfl 130 (.tmp 137) rfl b3 (o3 + i * 68) rfl (mkCells x) _ hr hUK rfl i1 ?_)
                                | ((with_reducible refine wpList_atS 26 ?_); refine wpList_store_any rfl 130 (.tmp 26) (.tmp 138) rfl wr.heap.size (mkCells x).toArray rfl rfl 130 (mkCells mk0).toArray (heap_alloc_new _ _) i2 (size_mk mk0_ok hxk) (mkCells_all _) ?_; intro wx gx htx))
                              have hbx : Below wr.heap.size wr wx := htx.below ((Below.refl _ _).alloc (Nat.le_refl _) _) (Nat.le_refl _)
                              have hbB := below_then hb hb.size hbx
                              have r1 := range_mk_pt (range_block (xs := mkCells x) gx)
                              have hMx := hMl.below hbB
                              have hlk := MapV.look (P := Tryd.prog) true keyPt hUS (zero_cn wx) hMx hxk.1
                              have hrun : (Instr.lookup 108 (.map (some b')) (.agg (ptL x.1.1 x.1.2).toArray) true).run Tryd.prog wx = .ok (.tuple #[.agg (cnCells x.2).toArray, .bool true]) wx := by
                                refine Eq.trans hlk ?_
                                rw [HXL]
                                rfl
                              have hlx := heap_lt gx
                              clear htx hbx hb hr hlk hMx HXL
                              go_upto_region 45 with (first
                                | ((with_reducible refine wpList_at 142 ?_); refine wpList_load_mid rfl 77 (.tmp 141) rfl wr.heap.size 0 rfl (ptL x.1.1 x.1.2) _ r1 hUP rfl ip ?_)
                                | ((with_reducible refine wpList_at 143 ?_); refine wpList_lookV rfl (.tmp 140) (.tmp 142) 108 true rfl (.map (some b')) (.agg (ptL x.1.1 x.1.2).toArray) _ rfl rfl hrun ?_)
                                | ((with_reducible refine wpList_atS 27 ?_); refine wpList_store_any rfl 106 (.tmp 27) (.tmp 144) rfl wx.heap.size (cnCells x.2).toArray rfl rfl 106 (cnCells cn0).toArray (heap_alloc_new _ _) icA (size_cn cn0_ok hxk.2) (cnCells_all _) ?_; intro wy gy hty))
                              have hby : Below wx.heap.size wx wy := hty.below ((Below.refl _ _).alloc (Nat.le_refl _) _) (Nat.le_refl _)
                              have hbY := below_then hbB hbB.size hby
                              have gxy := heap_below hby gx
                              have r2 : wy.rangeAt wr.heap.size 33 (cnCells x.2) := by have := mkCells_cn hxk (range_block (xs := mkCells x) gxy); rwa [Nat.zero_add] at this
                              clear hty hby hbB r1 hrun gx
                              go_wp2_with (first
                                | ((with_reducible refine wpList_at 149 ?_); refine wpList_load_rowG (by rfl) 106 (.tmp 27) rfl wx.heap.size rfl 106 _ _ _ gy hUC rfl icA ?_)
                                | ((with_reducible refine wpList_at 151 ?_); refine wpList_load_midG (by rfl) 106 (.tmp 150) rfl wr.heap.size 33 rfl (cnCells x.2) _ r2 hUC rfl ic ?_))
                              go_roundw
                              case rel => exact ⟨i + 1, by omega, by go_num, hbY⟩
                              case measure => simp [intOf]; omega
                            · have hil' : ¬ (i : Int) < (mm : Int) := by omega
                              have hMe := hMl.below hb
                              have hOe := RK.C.below hOl hb
                              have hBe := below_then hBl hBl.size hb
                              clear hMl hOl hBl hb hLc
                              go_wp2
                              go_roundw
                              case rel => exact ⟨k + 1, b', m2, Al, nl, cl, nx, by omega, by go_num, rfl, rfl, hnl6, HG2, hMe, hOe, hBe⟩
                              case measure => simp [intOf]; omega
                        · intro j pa pb v wx hj hr2 ht hen
                          have hx := HG2.out.ok _ (hr.sub.subset (List.mem_of_getElem? hj))
                          have hv := HG2.out.rng _ (hr.sub.subset (List.mem_of_getElem? hj))
                          have hen' : (Instr.entry (.pointer (some ⟨ws.heap.size, 0, none⟩))).run Tryd.prog wx = .ok (.tuple #[.agg (ptL pa pb).toArray, .agg (cnCells v).toArray]) wx := hen
                          have hll : (lft.eraseIdx j).length < lft.length := by
                            have := (List.getElem?_eq_some_iff.1 hj).1
                            rw [List.length_eraseIdx_of_lt this]
                            omega
                          have HM1 := Lib.hid hr.left_eq
                          obtain ⟨zc, hzc⟩ : ∃ zc, v.coins = zc := ⟨_, rfl⟩
                          have HX : Hid (tot m2 = y + zc + tot (lft.eraseIdx j)) := Lib.hid (by
                            have h1 := tot_perm (eraseIdx_perm lft j _ hj)
                            rw [tot_cons] at h1
                            simp only at h1
                            rw [hzc] at h1
                            have := HW.out
                            omega)
                          simp only at hv
                          rw [hzc] at hv
                          have hv0 := hv.1
                          have hv1 := hv.2
                          have hym : y ≤ 21233340 := by
                            have h1 := tot_rng m2 HG2.out.rng
                            have h2 := tot_rng lft (fun x hx => HG2.out.rng x (hr.sub.subset hx))
                            have := HW.out
                            omega
                          have hbx := ht.below hb (Nat.le_refl _)
                          have hsx : ws.heap.size ≤ wx.heap.size := hbx.size
                          have hlr := hr.lt
                          have hsy : wr.heap.size ≤ wx.heap.size := by have := ht.size; omega
                          clear hen hj hv ht HW
                          go_upto_region 38 with (first
                            | ((with_reducible refine wpList_atS 24 ?_); refine wpList_store_any rfl 106 (.tmp 24) (.tmp 119) rfl wx.heap.size (cnCells v).toArray rfl rfl 106 (cnCells cn0).toArray (heap_alloc_new _ _) (info_cnA hx.2) (size_cn cn0_ok hx.2) (cnCells_all _) ?_; intro wy gy hty))
                          have hby : Below wx.heap.size wx wy := hty.below ((Below.refl _ _).alloc (Nat.le_refl _) _) (Nat.le_refl _)
                          have hr3 := hr2.below hby
                          have hb3 := below_then hbx hbx.size hby
                          have tq : wy.cell? ⟨wx.heap.size, 0, none⟩ = some (.int .i64 zc) := blk_cell gy (by rw [← hzc]; rfl)
                          have HMl := Lib.hid hr3.left_eq
                          clear gy hty hby hr2 hbx hr hb hzc hen'
                          go_wp2
                          go_roundw
                          case rel => exact ⟨lft.eraseIdx j, y + zc, hr3, by go_num, by omega, HX, hb3⟩
                          case measure => rw [HMl.out, HM1.out]; omega
                    · intro j pa pb v wx hj hr2 ht hen
                      have hx := HG.out.ok _ (hr.sub.subset (List.mem_of_getElem? hj))
                      have hv := HG.out.rng _ (hr.sub.subset (List.mem_of_getElem? hj))
                      have hen' : (Instr.entry (.pointer (some ⟨wq.heap.size, 0, none⟩))).run Tryd.prog wx = .ok (.tuple #[.agg (ptL pa pb).toArray, .agg (cnCells v).toArray]) wx := hen
                      have hll : (lft.eraseIdx j).length < lft.length := by
                        have := (List.getElem?_eq_some_iff.1 hj).1
                        rw [List.length_eraseIdx_of_lt this]
                        omega
                      have HM1 := Lib.hid hr.left_eq
                      obtain ⟨zc, hzc⟩ : ∃ zc, v.coins = zc := ⟨_, rfl⟩
                      have HX : Hid (tot m = z + zc + tot (lft.eraseIdx j)) := Lib.hid (by
                        have h1 := tot_perm (eraseIdx_perm lft j _ hj)
                        rw [tot_cons] at h1
                        simp only at h1
                        rw [hzc] at h1
                        have := HW.out
                        omega)
                      simp only at hv
                      rw [hzc] at hv
                      have hv0 := hv.1
                      have hv1 := hv.2
                      have hzm : z ≤ 18874080 := by
                        have h1 := tot_rng m HG.out.rng
                        have h2 := tot_rng lft (fun x hx => HG.out.rng x (hr.sub.subset hx))
                        have := HW.out
                        omega
                      have hbx := ht.below hb (Nat.le_refl _)
                      have hsx : wq.heap.size ≤ wx.heap.size := hbx.size
                      have hlr := hr.lt
                      have hsy : wr.heap.size ≤ wx.heap.size := by have := ht.size; omega
                      clear hen hj hv ht HW
                      go_upto_region 32 with (first
                        | ((with_reducible refine wpList_atS 21 ?_); refine wpList_store_any rfl 106 (.tmp 21) (.tmp 106) rfl wx.heap.size (cnCells v).toArray rfl rfl 106 (cnCells cn0).toArray (heap_alloc_new _ _) (info_cnA hx.2) (size_cn cn0_ok hx.2) (cnCells_all _) ?_; intro wy gy hty))
                      have hby : Below wx.heap.size wx wy := hty.below ((Below.refl _ _).alloc (Nat.le_refl _) _) (Nat.le_refl _)
                      have hr3 := hr2.below hby
                      have hb3 := below_then hbx hbx.size hby
                      have tq : wy.cell? ⟨wx.heap.size, 0, none⟩ = some (.int .i64 zc) := blk_cell gy (by rw [← hzc]; rfl)
                      have HMl := Lib.hid hr3.left_eq
                      clear gy hty hby hr2 hbx hr hb hzc hen'
                      go_wp2
                      go_roundw
                      case rel => exact ⟨lft.eraseIdx j, z + zc, hr3, by go_num, by omega, HX, hb3⟩
                      case measure => rw [HMl.out, HM1.out]; omega
      · have hlt' : ¬ (k : Int) < (n : Int) := by omega
        go_wp2
        go_ret
        exact ⟨rfl, hB⟩
end Go.Proofs.YtjlkakggmfmfiaaDoor
