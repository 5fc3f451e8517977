/- The reference's place: a number of so many bytes. -/
import Derived.Test.YtjlkakggmfmfiaaTxLaw
import Derived.Test.YtjlkakggmfmfiaaRdr
set_option maxRecDepth 100000
set_option linter.unusedVariables false
namespace Go.Proofs.Ytjlkakggmfmfiaa
open Go Go.RowKit
/-- The cells of a place. -/
def plL (A : Option Addr) (n c at_ : Nat) (e : Int) : List Value := [.slice A n c, .int .i64 at_, .int .i64 e]
/-- The place says what the state says: what is left stands from there on, as long as there is no error. -/
structure Sim (bs : List Int) (at_ : Nat) (s : PSt) : Prop where
  le : at_ ≤ bs.length
  rest : s.e = 0 → s.bs = bs.drop at_
theorem Sim.take {bs : List Int} {at_ : Nat} {s : PSt} (h : Sim bs at_ s) (k : Nat) : (s.e = 0 ∧ at_ + k ≤ bs.length → Sim bs (at_ + k) (s.take k) ∧ (s.take k).e = 0 ∧ s.takeB k = (bs.drop at_).take k) ∧ (¬ (s.e = 0 ∧ at_ + k ≤ bs.length) → Sim bs at_ (s.take k) ∧ (s.take k).e = (if s.e = 0 then 8 else s.e) ∧ s.takeB k = [] ∧ (s.take k).e ≠ 0) := by
  refine ⟨fun ⟨h1, h2⟩ => ?_, fun hn => ?_⟩
  · have hb := h.rest h1
    have hl : k ≤ s.bs.length := by rw [hb, List.length_drop]; omega
    have et : s.take k = ⟨s.bs.drop k, 0⟩ := by unfold PSt.take; rw [if_pos h1, if_pos hl]
    have eb : s.takeB k = s.bs.take k := by unfold PSt.takeB; rw [if_pos ⟨h1, hl⟩]
    exact ⟨⟨h2, fun _ => by rw [et, hb, List.drop_drop]⟩, by rw [et], by rw [eb, hb]⟩
  · by_cases h1 : s.e = 0
    · have hb := h.rest h1
      have hl : ¬ k ≤ s.bs.length := by rw [hb, List.length_drop]; intro hl; exact hn ⟨h1, by have := h.le; omega⟩
      have et : s.take k = ⟨s.bs, 8⟩ := by unfold PSt.take; rw [if_pos h1, if_neg hl]
      have eb : s.takeB k = [] := by unfold PSt.takeB; rw [if_neg (fun h => hl h.2)]
      exact ⟨⟨h.le, fun he => by rw [et] at he; cases he⟩, by rw [et, if_pos h1], eb, by rw [et]; exact (by decide : (8 : Int) ≠ 0)⟩
    · have et : s.take k = s := by unfold PSt.take; rw [if_neg h1]
      have eb : s.takeB k = [] := by unfold PSt.takeB; rw [if_neg (fun h => h1 h.1)]
      exact ⟨⟨h.le, fun he => by rw [et] at he; exact absurd he h1⟩, by rw [et, if_neg h1], eb, by rw [et]; exact h1⟩
theorem info_pl (A : Option Addr) (n c at_ : Nat) (e : Int) : (Try.prog.info? 82).map (·.size) = some (plL A n c at_ e).length := by show _ = some 3; kernel_rfl
theorem info_plA (A : Option Addr) (n c at_ : Nat) (e : Int) : (Try.prog.info? 82).map (·.size) = some (plL A n c at_ e).toArray.size := by show _ = some 3; kernel_rfl
theorem pl_all (A : Option Addr) (n c at_ : Nat) (e : Int) : (plL A n c at_ e).toArray.all (·.oneCell') = true := by simp [plL, Value.oneCell']
def NumPost (w : World) (A : Option Addr) (n c : Nat) (bs : List Int) (s : PSt) (k : Nat) (e : Ending) (w' : World) : Prop :=
  ∃ at', e = .returned (.tuple #[.int .u64 (ofLE (s.takeB k)), .agg (plL A n c at' (s.take k).e).toArray]) ∧ Sim bs at' (s.take k) ∧ Below w.heap.size w w'
theorem results_tmp_cell {P : Program} {fn : Func} {p q : Tmp} {ty : TypeId} (h : fn.results = #[.tmp q, .cell p ty]) (tmps : Array Value) (w : World) (g : Nat) (t : TypeId) (cs : Array Value) (fr : Nat × Nat) (d : TypeDesc)
    (hp : tmps.getD p undef = .pointer (some ⟨g, 0, none⟩)) (hg : w.heap[g]? = some (.cells cs t fr))
    (hu : P.underlying ty = some d) (hd : (match d with | .struct _ | .array _ _ => true | _ => false) = true) (hi : (P.info? ty).map (·.size) = some cs.size) :
    (results fn tmps).run P w = .ok (.tuple #[tmps.getD q undef, .agg cs]) w := by
  have hp' : tmps[p]?.getD undef = .pointer (some ⟨g, 0, none⟩) := by simpa using hp
  simp [results, h, hp', asAddr, run_loadVar_row w g t ty cs fr d hg hu hd hi]
theorem ofLE_lt (B : List Int) (hB : Bytes B) (k : Nat) (hk : B.length ≤ k) : 0 ≤ ofLE B ∧ ofLE B < ((256 ^ k : Nat) : Int) := by
  have h := ofLE_range B hB
  have h1 : (256 : Nat) ^ B.length ≤ 256 ^ k := Nat.pow_le_pow_right (by decide) hk
  have h2 : (256 : Int) ^ B.length = ((256 ^ B.length : Nat) : Int) := by rw [Int.natCast_pow]; rfl
  omega
set_option maxHeartbeats 4000000 in
theorem number_calls (w : World) (A : Option Addr) (n c : Nat) (bs : List Int) (hn : n ≤ 1000000) (hr : Rd w A n (nums .u8 bs)) (hby : Bytes bs) (at_ : Nat) (s : PSt) (hs : Sim bs at_ s) (k : Nat) (hk0 : 1 ≤ k) (hk8 : k ≤ 8) :
    Calls Try.prog 30 #[.agg (plL A n c at_ s.e).toArray, .int .i64 k] w (NumPost w A n c bs s k) := by
  have hU := Try.underlying82
  have hl : bs.length = n := by have := hr.1; rwa [nums_length] at this
  have hle := hs.le
  have hST := Lib.hid (hs.take k)
  obtain ⟨se, hse⟩ : ∃ e, s.e = e := ⟨_, rfl⟩
  rw [hse] at hST ⊢
  have HL := Lib.hid hl
  have hatn : at_ ≤ n := by omega
  have g0 : ((w.alloc (.cells (plL A n c at_ se).toArray 82)).alloc (.cells (plL none 0 0 0 0).toArray 82)).heap[w.heap.size]? = some (.cells (plL A n c at_ se).toArray 82) := heap_alloc2_old _ _ _
  have g1 : ((w.alloc (.cells (plL A n c at_ se).toArray 82)).alloc (.cells (plL none 0 0 0 0).toArray 82)).heap[w.heap.size + 1]? = some (.cells (plL none 0 0 0 0).toArray 82) := heap_alloc2_new _ _ _
  have hb0 : Below w.heap.size w ((w.alloc (.cells (plL A n c at_ se).toArray 82)).alloc (.cells (plL none 0 0 0 0).toArray 82)) := ((Below.refl _ _).alloc (Nat.le_refl _) _).alloc (by simp) _
  clear hl hs
  go_enter Try.func30, Try.ntmps30
  go_upto_region 1 with fail
  refine wp_gen (q := fun wi => Below w.heap.size w wi ∧ wi.heap[w.heap.size]? = some (.cells (plL A n c at_ se).toArray 82) ∧ wi.heap[w.heap.size + 1]? = some (.cells (plL none 0 0 0 0).toArray 82)) ⟨hb0, g0, g1⟩ (fun w0 hw => ?_)
  clear hb0 g0 g1
  obtain ⟨hb0, g0, g1⟩ := hw
  have hr0 := hr.below hb0
  clear hr
  have t0 : w0.cell? ⟨w.heap.size, 0, none⟩ = some (.slice A n c) := blk_cell g0 rfl
  have t1 : w0.cell? ⟨w.heap.size, 1, none⟩ = some (.int .i64 at_) := blk_cell g0 rfl
  have t2 : w0.cell? ⟨w.heap.size, 2, none⟩ = some (.int .i64 se) := blk_cell g0 rfl
  have f1 := blk_frozen g0 1
  have f2 := blk_frozen g0 2
  by_cases he : se = 0
  · subst he
    by_cases hfit : at_ + k ≤ n
    · have hfit' : decide ((n : Int) < (at_ : Int) + (k : Int)) = false := decide_eq_false (by omega)
      obtain ⟨hS1, hS2, hS3⟩ := hST.out.1 ⟨rfl, by rw [HL.out]; exact hfit⟩
      obtain ⟨B, hB⟩ : ∃ B, (bs.drop at_).take k = B := ⟨_, rfl⟩
      have hBl : B.length = k := by rw [← hB, List.length_take, List.length_drop, HL.out]; omega
      have hBb : Bytes B := by rw [← hB]; exact (hby.drop _).take _
      have hrd : ∀ j, j < k → rd B j = rd bs (at_ + j) := fun j hj => by rw [← hB, rd_take _ _ _ hj, rd_drop]
      rw [hB] at hS3
      obtain ⟨b, o, hA, hcell⟩ := hr0.addr (by omega)
      subst hA
      have HS1 := Lib.hid hS1
      have HS2 := Lib.hid hS2
      have HS3 := Lib.hid hS3
      have HRD := Lib.hid hrd
      have HCELL := Lib.hid hcell
      clear hS1 hS2 hS3 hrd hB hcell
      go_upto_region 6 with fail
      go_wp2
      go_loopw [6, 7] (fun v6 v7 wr => ∃ (j : Nat), j ≤ k ∧ v7 = .int .i64 ((j : Int) - 1) ∧ v6 = .int .u64 (ofLE (B.drop j)) ∧ wr = w0) (fun _ v _ => ((intOf v) + 1).toNat)
      case atStart => exact ⟨k, Nat.le_refl _, by go_num, by rw [List.drop_eq_nil_of_le (by omega)]; rfl, rfl⟩
      case round =>
        obtain ⟨j, hj, rfl, rfl, rfl⟩ := hrel
        by_cases hj0 : 0 < j
        · have hj1 : (0 : Int) ≤ (j : Int) - 1 := by omega
          have hst := ofLE_drop B (j - 1) (by omega)
          rw [show j - 1 + 1 = j by omega] at hst
          have hx := ofLE_lt (B.drop j) (hBb.drop j) 7 (by rw [List.length_drop]; omega)
          have hby1 := hBb.rd (j - 1)
          have hc := HCELL.out (at_ + (j - 1)) (by omega)
          rw [← HRD.out (j - 1) (by omega)] at hc
          obtain ⟨x, hx0⟩ : ∃ x, ofLE (B.drop j) = x := ⟨_, rfl⟩
          obtain ⟨y, hy0⟩ : ∃ y, rd B (j - 1) = y := ⟨_, rfl⟩
          rw [hx0] at hst hx ⊢
          rw [hy0] at hst hby1 hc
          have HST2 : Hid (ofLE (B.drop (j - 1)) = y + 256 * x) := Lib.hid hst
          have hxl : x < 72057594037927936 := by have := hx.2; omega
          have hx1 := hx.1
          have w1 : IntKind.u64.wrap (x * 256) = x * 256 := by rw [IntKind.wrap_u64]; omega
          have w2 : IntKind.u64.wrap y = y := by rw [IntKind.wrap_u64]; omega
          have w3 : IntKind.u64.wrap (x * 256 + y) = x * 256 + y := by rw [IntKind.wrap_u64]; omega
          have hidx : (at_ : Int) + ((j : Int) - 1) = ((at_ + (j - 1) : Nat) : Int) := by omega
          clear hx0 hst hx hy0 hby1
          go_wp2
          go_roundw
          case rel => exact ⟨j - 1, by omega, by go_num, by rw [HST2.out]; go_num, (by first | rfl | trivial)⟩
          case measure => simp [intOf]; omega
        · have hj1 : ¬ (0 : Int) ≤ (j : Int) - 1 := by omega
          obtain rfl : j = 0 := by omega
          rw [List.drop_zero, ← HS3.out]
          have hw1 : IntKind.i64.wrap ((at_ : Int) + (k : Int)) = ((at_ + k : Nat) : Int) := by rw [IntKind.wrap_i64]; omega
          go_upto_region 11 with fail
          have ga : (wr.setCell ⟨w.heap.size, 1, none⟩ (.int .i64 ((at_ : Int) + (k : Int)))).heap[w.heap.size]? = some (.cells (plL (some ⟨b, o, none⟩) n c (at_ + k) 0).toArray 82) := blk_set g0 1 (.int .i64 ((at_ : Int) + (k : Int)))
          have hta := turned_setCell wr w.heap.size 1 (.int .i64 ((at_ : Int) + (k : Int)))
          have gb := hta.keep g1 (by omega)
          have hbb := hta.below hb0 (Nat.le_refl _)
          refine wp_region_noPanic ?_
          refine wp_region_held_drew (S := fun w' => w'.rangeAt w.heap.size 0 (plL (some ⟨b, o, none⟩) n c (at_ + k) 0)) (by kernel_rfl) (range_block ga) (fun hHeld => ?_)
          -- 0: ref.go:141 slot 49 := Op.move t6
          refine wpAnyH_take (i := 0) (oi := ⟨some 49, _, _, _, _, _⟩) (v := ?_) rfl (by kernel_rfl) (by kernel_rfl) (by kernel_rfl) (fun _ _ _ h => h) (Or.inl ⟨by rfl, ?_⟩) (by assumption) ?_
          rotate_left 1
          · intro w hSw; (try dsimp only at hSw); go_simp; try with_reducible rfl
          simp only [Act.put, List.setIfInBounds_toArray, List.set_cons_zero, List.set_cons_succ]
          -- 1: ref.go:141 slot 50 := Op.load 82 t2
          refine wpAnyH_take (i := 1) (oi := ⟨some 50, _, _, _, _, _⟩) rfl (by kernel_rfl) (by kernel_rfl) (by kernel_rfl) (fun _ _ _ h => h) (yieldsIf_load_mid (by rfl) _ _ rfl _ _ rfl ((plL (some ⟨b, o, none⟩) n c (at_ + k) 0)) _ (fun _ h => h) hU rfl (info_pl _ _ _ _ _)) (by assumption) ?_
          simp only [Act.put, List.setIfInBounds_toArray, List.set_cons_zero, List.set_cons_succ]
          -- 2: ref.go:141 slot 4 := Op.assign t49
          refine wpAnyH_take (i := 2) (oi := ⟨some 4, _, _, _, _, _⟩) (v := ?_) rfl (by kernel_rfl) (by kernel_rfl) (by kernel_rfl) (fun _ _ _ h => h) (Or.inl ⟨by rfl, ?_⟩) (by assumption) ?_
          rotate_left 1
          · intro w hSw; (try dsimp only at hSw); go_simp; try with_reducible rfl
          simp only [Act.put, List.setIfInBounds_toArray, List.set_cons_zero, List.set_cons_succ]
          -- 3: ref.go:141 slot none := Op.store 82 t5 t50
          refine wpAnyH_ready (rs := [3]) (by kernel_rfl) (by simp) ?_
          refine AllReadyH.cons (o := ⟨none, _, _, _, _, _⟩) rfl (fun K hK => ?_) AllReadyH.nil
          refine step_store_any (by rfl) 82 (.tmp 5) (.tmp 50) (by rfl) (w.heap.size + 1) (plL (some ⟨b, o, none⟩) n c (at_ + k) 0).toArray (by rfl) (by rfl) 82 (plL none 0 0 0 0).toArray gb (info_plA _ _ _ _ _) rfl (pl_all _ _ _ _ _) ?_
          intro w9 h9 ht9
          refine hK.out _ _ (range_block (ht9.keep ga (by omega))) (fun hHeld' => ?_)
          clear hHeld
          have hHeld := hHeld'
          clear hHeld'
          clear hK K
          try (simp only [Act.put])
          refine wpAnyH_done (by kernel_rfl) ?_ _
          refine NoPanic.normal ?_
          go_wp2_with fail
          exact bodyPost_ret (results_tmp_cell rfl _ _ (w.heap.size + 1) 82 (plL (some ⟨b, o, none⟩) n c (at_ + k) 0).toArray (0, 0) _ rfl h9 hU rfl (info_plA _ _ _ _ _)) rfl ⟨at_ + k, by rw [HS2.out]; rfl, HS1.out, ht9.below (below_then hbb hbb.size (Below.drew (Below.refl _ _))) (by omega)⟩
    · have hfit' : decide ((n : Int) < (at_ : Int) + (k : Int)) = true := decide_eq_true (by omega)
      obtain ⟨hS1, hS2, hS3, hS4⟩ := hST.out.2 (fun h => hfit (by have := HL.out; omega))
      have HS1 := Lib.hid hS1
      have HS2 := Lib.hid hS2
      have HS3 := Lib.hid hS3
      clear hS1 hS2 hS3 hS4
      go_upto_region 3 with fail
      have ga : (w0.setCell ⟨w.heap.size, 2, none⟩ (.int .i64 8)).heap[w.heap.size]? = some (.cells (plL A n c at_ 8).toArray 82) := blk_set g0 2 (.int .i64 8)
      have hta := turned_setCell w0 w.heap.size 2 (.int .i64 8)
      have gb := hta.keep g1 (by omega)
      have hbb := hta.below hb0 (Nat.le_refl _)
      have tn : (w0.setCell ⟨w.heap.size, 2, none⟩ (.int .i64 8)).cell? ⟨w.heap.size, 2, none⟩ = some (.int .i64 8) := blk_cell ga rfl
      go_upto_region 4 with fail
      refine wp_region_noPanic ?_
      refine wp_region_held_drew (S := fun w' => w'.rangeAt w.heap.size 0 (plL A n c at_ 8)) (by kernel_rfl) (range_block ga) (fun hHeld => ?_)
      -- 0: ref.go:134 slot 25 := Op.load 82 t2
      refine wpAnyH_take (i := 0) (oi := ⟨some 25, _, _, _, _, _⟩) rfl (by kernel_rfl) (by kernel_rfl) (by kernel_rfl) (fun _ _ _ h => h) (yieldsIf_load_mid (by rfl) _ _ rfl _ _ rfl ((plL A n c at_ 8)) _ (fun _ h => h) hU rfl (info_pl _ _ _ _ _)) (by assumption) ?_
      simp only [Act.put, List.setIfInBounds_toArray, List.set_cons_zero, List.set_cons_succ]
      -- 1: ref.go:134 slot 4 := Op.assign (const (0:u64))
      refine wpAnyH_take (i := 1) (oi := ⟨some 4, _, _, _, _, _⟩) (v := ?_) rfl (by kernel_rfl) (by kernel_rfl) (by kernel_rfl) (fun _ _ _ h => h) (Or.inl ⟨by rfl, ?_⟩) (by assumption) ?_
      rotate_left 1
      · intro w hSw; (try dsimp only at hSw); go_simp; try with_reducible rfl
      simp only [Act.put, List.setIfInBounds_toArray, List.set_cons_zero, List.set_cons_succ]
      -- 2: ref.go:134 slot none := Op.store 82 t5 t25
      refine wpAnyH_ready (rs := [2]) (by kernel_rfl) (by simp) ?_
      refine AllReadyH.cons (o := ⟨none, _, _, _, _, _⟩) rfl (fun K hK => ?_) AllReadyH.nil
      refine step_store_any (by rfl) 82 (.tmp 5) (.tmp 25) (by rfl) (w.heap.size + 1) (plL A n c at_ 8).toArray (by rfl) (by rfl) 82 (plL none 0 0 0 0).toArray gb (info_plA _ _ _ _ _) rfl (pl_all _ _ _ _ _) ?_
      intro w9 h9 ht9
      refine hK.out _ _ (range_block (ht9.keep ga (by omega))) (fun hHeld' => ?_)
      clear hHeld
      have hHeld := hHeld'
      clear hHeld'
      clear hK K
      try (simp only [Act.put])
      refine wpAnyH_done (by kernel_rfl) ?_ _
      refine NoPanic.normal ?_
      go_wp2_with fail
      exact bodyPost_ret (results_tmp_cell rfl _ _ (w.heap.size + 1) 82 (plL A n c at_ 8).toArray (0, 0) _ rfl h9 hU rfl (info_plA _ _ _ _ _)) rfl ⟨at_, by rw [HS2.out, HS3.out]; rfl, HS1.out, ht9.below (below_then hbb hbb.size (Below.drew (Below.refl _ _))) (by omega)⟩
  · have he' : (se == 0) = false := beq_eq_false_iff_ne.2 he
    obtain ⟨hS1, hS2, hS3, hS4⟩ := hST.out.2 (fun h => he h.1)
    rw [if_neg he] at hS2
    have HS1 := Lib.hid hS1
    have HS2 := Lib.hid hS2
    have HS3 := Lib.hid hS3
    clear hS1 hS2 hS3 hS4
    go_upto_region 4 with fail
    have ga := g0
    have gb := g1
    refine wp_region_noPanic ?_
    refine wp_region_held_drew (S := fun w' => w'.rangeAt w.heap.size 0 (plL A n c at_ se)) (by kernel_rfl) (range_block ga) (fun hHeld => ?_)
    -- 0: ref.go:134 slot 25 := Op.load 82 t2
    refine wpAnyH_take (i := 0) (oi := ⟨some 25, _, _, _, _, _⟩) rfl (by kernel_rfl) (by kernel_rfl) (by kernel_rfl) (fun _ _ _ h => h) (yieldsIf_load_mid (by rfl) _ _ rfl _ _ rfl ((plL A n c at_ se)) _ (fun _ h => h) hU rfl (info_pl _ _ _ _ _)) (by assumption) ?_
    simp only [Act.put, List.setIfInBounds_toArray, List.set_cons_zero, List.set_cons_succ]
    -- 1: ref.go:134 slot 4 := Op.assign (const (0:u64))
    refine wpAnyH_take (i := 1) (oi := ⟨some 4, _, _, _, _, _⟩) (v := ?_) rfl (by kernel_rfl) (by kernel_rfl) (by kernel_rfl) (fun _ _ _ h => h) (Or.inl ⟨by rfl, ?_⟩) (by assumption) ?_
    rotate_left 1
    · intro w hSw; (try dsimp only at hSw); go_simp; try with_reducible rfl
    simp only [Act.put, List.setIfInBounds_toArray, List.set_cons_zero, List.set_cons_succ]
    -- 2: ref.go:134 slot none := Op.store 82 t5 t25
    refine wpAnyH_ready (rs := [2]) (by kernel_rfl) (by simp) ?_
    refine AllReadyH.cons (o := ⟨none, _, _, _, _, _⟩) rfl (fun K hK => ?_) AllReadyH.nil
    refine step_store_any (by rfl) 82 (.tmp 5) (.tmp 25) (by rfl) (w.heap.size + 1) (plL A n c at_ se).toArray (by rfl) (by rfl) 82 (plL none 0 0 0 0).toArray gb (info_plA _ _ _ _ _) rfl (pl_all _ _ _ _ _) ?_
    intro w9 h9 ht9
    refine hK.out _ _ (range_block (ht9.keep ga (by omega))) (fun hHeld' => ?_)
    clear hHeld
    have hHeld := hHeld'
    clear hHeld'
    clear hK K
    try (simp only [Act.put])
    refine wpAnyH_done (by kernel_rfl) ?_ _
    refine NoPanic.normal ?_
    go_wp2_with fail
    exact bodyPost_ret (results_tmp_cell rfl _ _ (w.heap.size + 1) 82 (plL A n c at_ se).toArray (0, 0) _ rfl h9 hU rfl (info_plA _ _ _ _ _)) rfl ⟨at_, by rw [HS2.out, HS3.out]; rfl, HS1.out, ht9.below (below_then hb0 hb0.size (Below.drew (Below.refl _ _))) (by omega)⟩
end Go.Proofs.Ytjlkakggmfmfiaa
