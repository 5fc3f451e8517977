/- The reference's place: a count, a text. -/
import Derived.Test.YtjlkakggmfmfiaaRefNum07
set_option maxRecDepth 100000
set_option linter.unusedVariables false
namespace Go.Proofs.Ytjlkakggmfmfiaa
open Go Go.RowKit
theorem ofLE_lt8 (B : List Int) (hB : Bytes B) (hk : B.length ≤ 8) : 0 ≤ ofLE B ∧ ofLE B < 18446744073709551616 := by
  have h := ofLE_lt B hB 8 hk
  omega
def CntPost (w : World) (A : Option Addr) (n c : Nat) (bs : List Int) (s : PSt) (m : Nat) (e : Ending) (w' : World) : Prop :=
  ∃ at', e = .returned (.tuple #[.int .i64 (s.countV m), .agg (plL A n c at' (s.count m).e).toArray]) ∧ Sim bs at' (s.count m) ∧ Below w.heap.size w w'
/-- What the second reading of a count finds. -/
def leastF (b : Int) : Nat := if b = 253 then 253 else if b = 254 then 65536 else 4294967296
theorem comp_least {b : Int} (hb : b = 253 ∨ b = 254 ∨ b = 255) {x : Int} (h0 : 0 ≤ x) (h1 : x < ((256 ^ sizF b : Nat) : Int)) : (compF x.toNat).length = 1 + sizF b ↔ (leastF b : Int) ≤ x := by
  rw [compF_length]
  rcases hb with rfl | rfl | rfl
  all_goals
    simp only [sizF, leastF] at h1 ⊢
    simp at h1 ⊢
    split <;> (try split) <;> (try split) <;> omega
/-- What a count is, by what was read. -/
structure CF (m : Nat) (s : PSt) (L x : Int) (s2 : PSt) : Prop where
  bad : s2.e ≠ 0 → (s.count m).e = s2.e ∧ s.countV m = 0
  low : s2.e = 0 → x < L → (s.count m).e = 2 ∧ s.countV m = 0
  high : s2.e = 0 → ¬ x < L → (m : Int) < x → (s.count m).e = 2 ∧ s.countV m = 0
  ok : s2.e = 0 → ¬ x < L → ¬ (m : Int) < x → s.count m = s2 ∧ s.countV m = x.toNat
theorem CF.small {m : Nat} {b : Int} {r : List Int} (hb : b < 253) (h0 : 0 ≤ b) : CF m ⟨b :: r, 0⟩ 0 b ⟨r, 0⟩ := by
  have hx : expF (b :: r) = (b, 1, 0) := by simp only [expF]; rw [if_pos hb]
  refine ⟨fun h => absurd rfl h, fun _ h => by omega, fun _ _ hm => ?_, fun _ _ hm => ?_⟩
  · unfold PSt.count PSt.countV
    simp only [hx, ne_eq, not_true_eq_false, if_false, hm, if_true, and_self]
  · unfold PSt.count PSt.countV
    simp only [hx, ne_eq, not_true_eq_false, if_false, hm]
    exact ⟨rfl, trivial⟩
theorem CF.great {m : Nat} {b : Int} {r : List Int} (hb : b = 253 ∨ b = 254 ∨ b = 255) (hr : Bytes r) : CF m ⟨b :: r, 0⟩ (leastF b) (ofLE ((⟨r, 0⟩ : PSt).takeB (sizF b))) ((⟨r, 0⟩ : PSt).take (sizF b)) := by
  have hnb : ¬ b < 253 := by omega
  by_cases hl : r.length < sizF b
  · have hx : expF (b :: r) = (0, 0, 8) := by simp only [expF]; rw [if_neg hnb, if_pos hl]
    have et : (⟨r, 0⟩ : PSt).take (sizF b) = ⟨r, 8⟩ := by unfold PSt.take; rw [if_pos rfl, if_neg (by show ¬ sizF b ≤ r.length; omega)]
    rw [et]
    refine ⟨fun _ => ?_, (fun h => by cases h), (fun h => by cases h), (fun h => by cases h)⟩
    unfold PSt.count PSt.countV
    simp [hx]
  · have et : (⟨r, 0⟩ : PSt).take (sizF b) = ⟨r.drop (sizF b), 0⟩ := by unfold PSt.take; rw [if_pos rfl, if_pos (by show sizF b ≤ r.length; omega)]
    have eb : (⟨r, 0⟩ : PSt).takeB (sizF b) = r.take (sizF b) := by unfold PSt.takeB; rw [if_pos ⟨rfl, by show sizF b ≤ r.length; omega⟩]
    rw [et, eb]
    have hlt := ofLE_lt (r.take (sizF b)) (hr.take _) (sizF b) (List.length_take_le _ _)
    have hc := comp_least hb hlt.1 hlt.2
    refine ⟨fun h => absurd rfl h, fun _ h => ?_, fun _ h hm => ?_, fun _ h hm => ?_⟩
    · have hx : expF (b :: r) = (0, 0, 2) := by simp only [expF]; rw [if_neg hnb, if_neg hl, if_pos (fun e => by have := hc.1 e; omega)]
      unfold PSt.count PSt.countV
      simp [hx]
    · have hx : expF (b :: r) = (ofLE (r.take (sizF b)), 1 + sizF b, 0) := by simp only [expF]; rw [if_neg hnb, if_neg hl, if_neg (fun e => e (hc.2 (by omega)))]
      unfold PSt.count PSt.countV
      simp only [hx, ne_eq, not_true_eq_false, if_false, hm, if_true, and_self]
    · have hx : expF (b :: r) = (ofLE (r.take (sizF b)), 1 + sizF b, 0) := by simp only [expF]; rw [if_neg hnb, if_neg hl, if_neg (fun e => e (hc.2 (by omega)))]
      unfold PSt.count PSt.countV
      simp only [hx, ne_eq, not_true_eq_false, if_false, hm, and_true, PSt.mk.injEq]
      rw [Nat.add_comm, List.drop_succ_cons]
set_option maxHeartbeats 8000000 in
theorem count_calls07 (w : World) (A : Option Addr) (n c : Nat) (bs : List Int) (hn : n ≤ 1000000) (hr : Rd w A n (nums .u8 bs)) (hby : Bytes bs) (at_ : Nat) (s : PSt) (hs : Sim bs at_ s) (m : Nat) (hm : m ≤ 100000) :
    Calls Try.prog 31 #[.agg (plL A n c at_ s.e).toArray, .int .u64 m] w (CntPost w A n c bs s m) := by
  have hU := Try.underlying82
  have g0 : ((w.alloc (.cells (plL A n c at_ s.e).toArray 82)).alloc (.cells (plL none 0 0 0 0).toArray 82)).heap[w.heap.size]? = some (.cells (plL A n c at_ s.e).toArray 82) := heap_alloc2_old _ _ _
  have g1 : ((w.alloc (.cells (plL A n c at_ s.e).toArray 82)).alloc (.cells (plL none 0 0 0 0).toArray 82)).heap[w.heap.size + 1]? = some (.cells (plL none 0 0 0 0).toArray 82) := heap_alloc2_new _ _ _
  have hb0 : Below w.heap.size w ((w.alloc (.cells (plL A n c at_ s.e).toArray 82)).alloc (.cells (plL none 0 0 0 0).toArray 82)) := ((Below.refl _ _).alloc (Nat.le_refl _) _).alloc (by simp) _
  go_enter Try.func31, Try.ntmps31
  go_upto_region 1 with fail
  refine wp_gen (q := fun wi => Below w.heap.size w wi ∧ wi.heap[w.heap.size]? = some (.cells (plL A n c at_ s.e).toArray 82) ∧ wi.heap[w.heap.size + 1]? = some (.cells (plL none 0 0 0 0).toArray 82)) ⟨hb0, g0, g1⟩ (fun w0 hw => ?_)
  clear hb0 g0 g1
  obtain ⟨hb0, g0, g1⟩ := hw
  have hr0 := hr.below hb0
  clear hr
  go_wp2_with (first | ((with_reducible refine wpList_at 11 ?_); refine wpList_load_row rfl 82 (.tmp 2) rfl w.heap.size rfl 82 _ _ _ g0 hU rfl (info_plA _ _ _ _ _) ?_))
  refine (number_calls w0 A n c bs hn hr0 hby at_ s hs 1 (by decide) (by decide)).mono ?_
  rintro e w1 ⟨a1, rfl, hS1, hb1⟩
  have hB1 := below_then hb0 hb0.size hb1
  have gr1 := heap_below hb1 g1
  have hr1 := hr0.below hb1
  have hlo1 : w.heap.size + 1 < w1.heap.size := heap_lt gr1
  have H1 := Lib.hid (hs.take 1)
  obtain ⟨s1, hs1⟩ : ∃ s1, s.take 1 = s1 := ⟨_, rfl⟩
  obtain ⟨b1, hb1v⟩ : ∃ b, ofLE (s.takeB 1) = b := ⟨_, rfl⟩
  rw [hs1] at hS1 H1 ⊢
  rw [hb1v]
  have HS1E := Lib.hid hs1
  have HB1V := Lib.hid hb1v
  clear g0 g1 hr0 hb1 hb0 hs1 hb1v
  go_upto_region 2 with (first | ((with_reducible refine wpList_atS 7 ?_); refine wpList_store_any rfl 82 (.tmp 7) (.tmp 14) rfl w1.heap.size (plL A n c a1 s1.e).toArray rfl rfl 82 (plL none 0 0 0 0).toArray (heap_alloc_new _ _) (info_plA _ _ _ _ _) rfl (pl_all _ _ _ _ _) ?_; intro w2 g2 ht2))
  have hb2 : Below w1.heap.size w1 w2 := ht2.below ((Below.refl _ _).alloc (Nat.le_refl _) _) (Nat.le_refl _)
  clear ht2
  have gr2 := heap_below hb2 gr1
  have hr2 := hr1.below hb2
  have hB2 := below_then hB1 hB1.size hb2
  have t2 : w2.cell? ⟨w1.heap.size, 2, none⟩ = some (.int .i64 s1.e) := blk_cell g2 rfl
  clear gr1 hr1 hB1 hb2
  by_cases he : s1.e = 0
  · have he' : (s1.e == 0) = true := beq_iff_eq.2 he
    obtain ⟨q1, q2, q3⟩ := PSt.take_e (p := s) (n := 1) (by rw [HS1E.out]; exact he)
    have hsb := hs.rest q1
    obtain ⟨x0, r, hxr⟩ : ∃ x r, s.bs = x :: r := by
      cases hq : s.bs with
      | nil => rw [hq] at q2; simp at q2
      | cons x r => exact ⟨x, r, rfl⟩
    have hbx : Bytes (x0 :: r) := by rw [← hxr, hsb]; exact hby.drop _
    have hx0 := hbx x0 (by simp)
    have hrb : Bytes r := fun y hy => hbx y (by simp [hy])
    have hs1r : s1 = ⟨r, 0⟩ := by rw [← HS1E.out, q3, hxr]; rfl
    have hb1x : b1 = x0 := by
      rw [← HB1V.out]
      unfold PSt.takeB
      rw [if_pos ⟨q1, q2⟩, hxr]
      show ofLE [x0] = x0
      simp [ofLE]
    subst hb1x
    have hsr : s = ⟨b1 :: r, 0⟩ := by
      obtain ⟨sb, se⟩ := s
      simp only at q1 hxr
      rw [q1, hxr]
    have HSR := Lib.hid hsr
    have HR1 := Lib.hid hs1r
    have f2 := blk_frozen g2 2
    clear hsb hxr hbx hsr q1 q2 q3 hs1r
    by_cases c0 : b1 < 253
    · have n1 : (b1 == 253) = false := beq_eq_false_iff_ne.2 (by omega)
      have n2 : (b1 == 254) = false := beq_eq_false_iff_ne.2 (by omega)
      have n3 : (b1 == 255) = false := beq_eq_false_iff_ne.2 (by omega)
      have HCF : Hid (CF m s 0 b1 s1) := Lib.hid (by rw [HSR.out, HR1.out]; exact CF.small c0 hx0.1)
      have hx1 := hx0.1
      have hx2 : b1 < 18446744073709551616 := by omega
      go_upto_region 15 with fail
      by_cases h2 : s1.e = 0
      · have h2' : (s1.e == 0) = true := beq_iff_eq.2 h2
        by_cases hl : b1 < 0
        · exact absurd hl (by omega)
        · have hl' : decide (b1 < 0) = false := decide_eq_false hl
          by_cases hm2 : (m : Int) < b1
          · have hm2' : decide ((m : Int) < b1) = true := decide_eq_true hm2
            have HE := Lib.hid (HCF.out.high h2 hl hm2)
            go_upto_region 17 with fail
            have ga : (w2.setCell ⟨w1.heap.size, 2, none⟩ (.int .i64 2)).heap[w1.heap.size]? = some (.cells (plL A n c a1 2).toArray 82) := blk_set g2 2 (.int .i64 2)
            have hta := turned_setCell w2 w1.heap.size 2 (.int .i64 2)
            have gb := hta.keep gr2 (by omega)
            have hbb := hta.below hB2 (by omega)
            have tn : (w2.setCell ⟨w1.heap.size, 2, none⟩ (.int .i64 2)).cell? ⟨w1.heap.size, 2, none⟩ = some (.int .i64 2) := blk_cell ga rfl
            go_upto_region 18 with fail
            refine wp_region_noPanic ?_
            refine wp_region_held_drew (S := fun w' => w'.rangeAt w1.heap.size 0 (plL A n c a1 2)) (by kernel_rfl) (range_block ga) (fun hHeld => ?_)
            -- 0: ref.go:168 slot 58 := Op.load 82 t7
            refine wpAnyH_take (i := 0) (oi := ⟨some 58, _, _, _, _, _⟩) rfl (by kernel_rfl) (by kernel_rfl) (by kernel_rfl) (fun _ _ _ h => h) (yieldsIf_load_mid (by rfl) _ _ rfl _ _ rfl ((plL A n c a1 2)) _ (fun _ h => h) hU rfl (info_pl _ _ _ _ _)) (by assumption) ?_
            simp only [Act.put, List.setIfInBounds_toArray, List.set_cons_zero, List.set_cons_succ]
            -- 1: ref.go:168 slot 4 := Op.assign (const (0:i64))
            refine wpAnyH_take (i := 1) (oi := ⟨some 4, _, _, _, _, _⟩) (v := ?_) rfl (by kernel_rfl) (by kernel_rfl) (by kernel_rfl) (fun _ _ _ h => h) (Or.inl ⟨by rfl, ?_⟩) (by assumption) ?_
            rotate_left 1
            · intro w hSw; (try dsimp only at hSw); go_simp; try with_reducible rfl
            simp only [Act.put, List.setIfInBounds_toArray, List.set_cons_zero, List.set_cons_succ]
            -- 2: ref.go:168 slot none := Op.store 82 t5 t58
            refine wpAnyH_ready (rs := [2]) (by kernel_rfl) (by simp) ?_
            refine AllReadyH.cons (o := ⟨none, _, _, _, _, _⟩) rfl (fun K hK => ?_) AllReadyH.nil
            refine step_store_any (by rfl) 82 (.tmp 5) (.tmp 58) (by rfl) (w.heap.size + 1) ((plL A n c a1 2)).toArray (by rfl) (by rfl) 82 (plL none 0 0 0 0).toArray gb (info_plA _ _ _ _ _) rfl (pl_all _ _ _ _ _) ?_
            intro w9 h9 ht9
            refine hK.out _ _ (range_block (ht9.keep ga (by omega))) (fun hHeld' => ?_)
            clear hHeld
            have hHeld := hHeld'
            clear hHeld'
            clear hK K
            try (simp only [Act.put])
            refine wpAnyH_done (by kernel_rfl) ?_ _
            refine NoPanic.normal ?_
            go_wp2_with fail
            exact bodyPost_ret (results_tmp_cell rfl _ _ (w.heap.size + 1) 82 (plL A n c a1 2).toArray (0, 0) _ rfl h9 hU rfl (info_plA _ _ _ _ _)) rfl ⟨a1, by rw [HE.out.1, HE.out.2]; rfl, ⟨hS1.le, fun h => by rw [HE.out.1] at h; cases h⟩, ht9.below (below_then hbb hbb.size (Below.drew (Below.refl _ _))) (by omega)⟩
          · have hm2' : decide ((m : Int) < b1) = false := decide_eq_false hm2
            have HE := Lib.hid (HCF.out.ok h2 hl hm2)
            have hwx : IntKind.i64.wrap b1 = b1 := by rw [IntKind.wrap_i64]; omega
            have HV : Hid (b1 = ((s.countV m : Nat) : Int)) := Lib.hid (by rw [HE.out.2]; omega)
            have ga := g2
            have gb := gr2
            go_upto_region 19 with fail
            refine wp_region_noPanic ?_
            refine wp_region_held_drew (S := fun w' => w'.rangeAt w1.heap.size 0 (plL A n c a1 s1.e)) (by kernel_rfl) (range_block ga) (fun hHeld => ?_)
            -- 0: ref.go:170 slot 59 := Op.move t9
            refine wpAnyH_take (i := 0) (oi := ⟨some 59, _, _, _, _, _⟩) (v := ?_) rfl (by kernel_rfl) (by kernel_rfl) (by kernel_rfl) (fun _ _ _ h => h) (Or.inl ⟨by rfl, ?_⟩) (by assumption) ?_
            rotate_left 1
            · intro w hSw; (try dsimp only at hSw); go_simp; try with_reducible rfl
            simp only [Act.put, List.setIfInBounds_toArray, List.set_cons_zero, List.set_cons_succ]
            -- 1: ref.go:170 slot 60 := Op.convert 76 3 t59
            refine wpAnyH_take (i := 1) (oi := ⟨some 60, _, _, _, _, _⟩) (v := ?_) rfl (by kernel_rfl) (by kernel_rfl) (by kernel_rfl) (fun _ _ _ h => h) (Or.inl ⟨by rfl, ?_⟩) (by assumption) ?_
            rotate_left 1
            · intro w hSw; (try dsimp only at hSw); go_simp; try with_reducible rfl
            simp only [Act.put, List.setIfInBounds_toArray, List.set_cons_zero, List.set_cons_succ]
            -- 2: ref.go:170 slot 61 := Op.load 82 t7
            refine wpAnyH_take (i := 2) (oi := ⟨some 61, _, _, _, _, _⟩) rfl (by kernel_rfl) (by kernel_rfl) (by kernel_rfl) (fun _ _ _ h => h) (yieldsIf_load_mid (by rfl) _ _ rfl _ _ rfl ((plL A n c a1 s1.e)) _ (fun _ h => h) hU rfl (info_pl _ _ _ _ _)) (by assumption) ?_
            simp only [Act.put, List.setIfInBounds_toArray, List.set_cons_zero, List.set_cons_succ]
            -- 3: ref.go:170 slot 4 := Op.assign t60
            refine wpAnyH_take (i := 3) (oi := ⟨some 4, _, _, _, _, _⟩) (v := ?_) rfl (by kernel_rfl) (by kernel_rfl) (by kernel_rfl) (fun _ _ _ h => h) (Or.inl ⟨by rfl, ?_⟩) (by assumption) ?_
            rotate_left 1
            · intro w hSw; (try dsimp only at hSw); go_simp; try with_reducible rfl
            simp only [Act.put, List.setIfInBounds_toArray, List.set_cons_zero, List.set_cons_succ]
            -- 4: ref.go:170 slot none := Op.store 82 t5 t61
            refine wpAnyH_ready (rs := [4]) (by kernel_rfl) (by simp) ?_
            refine AllReadyH.cons (o := ⟨none, _, _, _, _, _⟩) rfl (fun K hK => ?_) AllReadyH.nil
            refine step_store_any (by rfl) 82 (.tmp 5) (.tmp 61) (by rfl) (w.heap.size + 1) ((plL A n c a1 s1.e)).toArray (by rfl) (by rfl) 82 (plL none 0 0 0 0).toArray gb (info_plA _ _ _ _ _) rfl (pl_all _ _ _ _ _) ?_
            intro w9 h9 ht9
            refine hK.out _ _ (range_block (ht9.keep ga (by omega))) (fun hHeld' => ?_)
            clear hHeld
            have hHeld := hHeld'
            clear hHeld'
            clear hK K
            try (simp only [Act.put])
            refine wpAnyH_done (by kernel_rfl) ?_ _
            refine NoPanic.normal ?_
            go_wp2_with fail
            exact bodyPost_ret (results_tmp_cell rfl _ _ (w.heap.size + 1) 82 (plL A n c a1 s1.e).toArray (0, 0) _ rfl h9 hU rfl (info_plA _ _ _ _ _)) rfl ⟨a1, by rw [← HV.out, HE.out.1]; rfl, by rw [HE.out.1]; exact hS1, ht9.below (below_then hB2 hB2.size (Below.drew (Below.refl _ _))) (by omega)⟩
      · exact absurd he h2
    · by_cases c1 : b1 = 253
      · obtain rfl : b1 = 253 := by omega
        have HCF0 : Hid (CF m s 253 (ofLE (s1.takeB 2)) (s1.take 2)) := Lib.hid (by rw [HSR.out, HR1.out]; exact CF.great (b := 253) (by omega) hrb)
        go_wp2_with (first | ((with_reducible refine wpList_at 23 ?_); refine wpList_load_row rfl 82 (.tmp 7) rfl w1.heap.size rfl 82 _ _ _ g2 hU rfl (info_plA _ _ _ _ _) ?_))
        have hcall := number_calls w2 A n c bs hn hr2 hby a1 s1 hS1 2 (by decide) (by decide)
        rw [he] at hcall
        refine hcall.mono ?_
        clear hcall
        rintro e w3 ⟨a2, rfl, hS2, hb3⟩
        have hB3 := below_then hB2 hB2.size hb3
        have gr3 := heap_below hb3 gr2
        have g3 := heap_below hb3 g2
        obtain ⟨s2, hs2⟩ : ∃ s2, s1.take 2 = s2 := ⟨_, rfl⟩
        obtain ⟨x, hx⟩ : ∃ x, ofLE (s1.takeB 2) = x := ⟨_, rfl⟩
        have hx3 := ofLE_lt8 (s1.takeB 2) (PSt.takeB_bytes (by rw [HR1.out]; exact hrb) 2) (Nat.le_trans (PSt.takeB_len _ _) (by decide))
        rw [hs2] at hS2 HCF0 ⊢
        rw [hx] at HCF0 hx3 ⊢
        have HCF : Hid (CF m s 253 x s2) := HCF0
        have hx1 := hx3.1
        have hx2 : x < 18446744073709551616 := hx3.2
        clear hs2 hx HCF0 hb3 hx3 gr2 g2 t2 f2
        go_upto_region 8 with (first | ((with_reducible refine wpList_atS 7 ?_); refine wpList_store_any rfl 82 (.tmp 7) (.tmp 26) rfl w1.heap.size (plL A n c a2 s2.e).toArray rfl rfl 82 (plL A n c a1 s1.e).toArray g3 (info_plA _ _ _ _ _) rfl (pl_all _ _ _ _ _) ?_; intro w4 g4 ht4))
        have gr4 := ht4.keep gr3 (by omega)
        have hB4 := ht4.below hB3 (by omega)
        have t4 : w4.cell? ⟨w1.heap.size, 2, none⟩ = some (.int .i64 s2.e) := blk_cell g4 rfl
        have f4 := blk_frozen g4 2
        clear g3 gr3 hB3 ht4
        go_upto_region 15 with fail
        by_cases h2 : s2.e = 0
        · have h2' : (s2.e == 0) = true := beq_iff_eq.2 h2
          by_cases hl : x < 253
          · have hl' : decide (x < 253) = true := decide_eq_true hl
            have HE := Lib.hid (HCF.out.low h2 hl)
            go_upto_region 17 with fail
            have ga : (w4.setCell ⟨w1.heap.size, 2, none⟩ (.int .i64 2)).heap[w1.heap.size]? = some (.cells (plL A n c a2 2).toArray 82) := blk_set g4 2 (.int .i64 2)
            have hta := turned_setCell w4 w1.heap.size 2 (.int .i64 2)
            have gb := hta.keep gr4 (by omega)
            have hbb := hta.below hB4 (by omega)
            have tn : (w4.setCell ⟨w1.heap.size, 2, none⟩ (.int .i64 2)).cell? ⟨w1.heap.size, 2, none⟩ = some (.int .i64 2) := blk_cell ga rfl
            go_upto_region 18 with fail
            refine wp_region_noPanic ?_
            refine wp_region_held_drew (S := fun w' => w'.rangeAt w1.heap.size 0 (plL A n c a2 2)) (by kernel_rfl) (range_block ga) (fun hHeld => ?_)
            -- 0: ref.go:168 slot 58 := Op.load 82 t7
            refine wpAnyH_take (i := 0) (oi := ⟨some 58, _, _, _, _, _⟩) rfl (by kernel_rfl) (by kernel_rfl) (by kernel_rfl) (fun _ _ _ h => h) (yieldsIf_load_mid (by rfl) _ _ rfl _ _ rfl ((plL A n c a2 2)) _ (fun _ h => h) hU rfl (info_pl _ _ _ _ _)) (by assumption) ?_
            simp only [Act.put, List.setIfInBounds_toArray, List.set_cons_zero, List.set_cons_succ]
            -- 1: ref.go:168 slot 4 := Op.assign (const (0:i64))
            refine wpAnyH_take (i := 1) (oi := ⟨some 4, _, _, _, _, _⟩) (v := ?_) rfl (by kernel_rfl) (by kernel_rfl) (by kernel_rfl) (fun _ _ _ h => h) (Or.inl ⟨by rfl, ?_⟩) (by assumption) ?_
            rotate_left 1
            · intro w hSw; (try dsimp only at hSw); go_simp; try with_reducible rfl
            simp only [Act.put, List.setIfInBounds_toArray, List.set_cons_zero, List.set_cons_succ]
            -- 2: ref.go:168 slot none := Op.store 82 t5 t58
            refine wpAnyH_ready (rs := [2]) (by kernel_rfl) (by simp) ?_
            refine AllReadyH.cons (o := ⟨none, _, _, _, _, _⟩) rfl (fun K hK => ?_) AllReadyH.nil
            refine step_store_any (by rfl) 82 (.tmp 5) (.tmp 58) (by rfl) (w.heap.size + 1) ((plL A n c a2 2)).toArray (by rfl) (by rfl) 82 (plL none 0 0 0 0).toArray gb (info_plA _ _ _ _ _) rfl (pl_all _ _ _ _ _) ?_
            intro w9 h9 ht9
            refine hK.out _ _ (range_block (ht9.keep ga (by omega))) (fun hHeld' => ?_)
            clear hHeld
            have hHeld := hHeld'
            clear hHeld'
            clear hK K
            try (simp only [Act.put])
            refine wpAnyH_done (by kernel_rfl) ?_ _
            refine NoPanic.normal ?_
            go_wp2_with fail
            exact bodyPost_ret (results_tmp_cell rfl _ _ (w.heap.size + 1) 82 (plL A n c a2 2).toArray (0, 0) _ rfl h9 hU rfl (info_plA _ _ _ _ _)) rfl ⟨a2, by rw [HE.out.1, HE.out.2]; rfl, ⟨hS2.le, fun h => by rw [HE.out.1] at h; cases h⟩, ht9.below (below_then hbb hbb.size (Below.drew (Below.refl _ _))) (by omega)⟩
          · have hl' : decide (x < 253) = false := decide_eq_false hl
            by_cases hm2 : (m : Int) < x
            · have hm2' : decide ((m : Int) < x) = true := decide_eq_true hm2
              have HE := Lib.hid (HCF.out.high h2 hl hm2)
              go_upto_region 17 with fail
              have ga : (w4.setCell ⟨w1.heap.size, 2, none⟩ (.int .i64 2)).heap[w1.heap.size]? = some (.cells (plL A n c a2 2).toArray 82) := blk_set g4 2 (.int .i64 2)
              have hta := turned_setCell w4 w1.heap.size 2 (.int .i64 2)
              have gb := hta.keep gr4 (by omega)
              have hbb := hta.below hB4 (by omega)
              have tn : (w4.setCell ⟨w1.heap.size, 2, none⟩ (.int .i64 2)).cell? ⟨w1.heap.size, 2, none⟩ = some (.int .i64 2) := blk_cell ga rfl
              go_upto_region 18 with fail
              refine wp_region_noPanic ?_
              refine wp_region_held_drew (S := fun w' => w'.rangeAt w1.heap.size 0 (plL A n c a2 2)) (by kernel_rfl) (range_block ga) (fun hHeld => ?_)
              -- 0: ref.go:168 slot 58 := Op.load 82 t7
              refine wpAnyH_take (i := 0) (oi := ⟨some 58, _, _, _, _, _⟩) rfl (by kernel_rfl) (by kernel_rfl) (by kernel_rfl) (fun _ _ _ h => h) (yieldsIf_load_mid (by rfl) _ _ rfl _ _ rfl ((plL A n c a2 2)) _ (fun _ h => h) hU rfl (info_pl _ _ _ _ _)) (by assumption) ?_
              simp only [Act.put, List.setIfInBounds_toArray, List.set_cons_zero, List.set_cons_succ]
              -- 1: ref.go:168 slot 4 := Op.assign (const (0:i64))
              refine wpAnyH_take (i := 1) (oi := ⟨some 4, _, _, _, _, _⟩) (v := ?_) rfl (by kernel_rfl) (by kernel_rfl) (by kernel_rfl) (fun _ _ _ h => h) (Or.inl ⟨by rfl, ?_⟩) (by assumption) ?_
              rotate_left 1
              · intro w hSw; (try dsimp only at hSw); go_simp; try with_reducible rfl
              simp only [Act.put, List.setIfInBounds_toArray, List.set_cons_zero, List.set_cons_succ]
              -- 2: ref.go:168 slot none := Op.store 82 t5 t58
              refine wpAnyH_ready (rs := [2]) (by kernel_rfl) (by simp) ?_
              refine AllReadyH.cons (o := ⟨none, _, _, _, _, _⟩) rfl (fun K hK => ?_) AllReadyH.nil
              refine step_store_any (by rfl) 82 (.tmp 5) (.tmp 58) (by rfl) (w.heap.size + 1) ((plL A n c a2 2)).toArray (by rfl) (by rfl) 82 (plL none 0 0 0 0).toArray gb (info_plA _ _ _ _ _) rfl (pl_all _ _ _ _ _) ?_
              intro w9 h9 ht9
              refine hK.out _ _ (range_block (ht9.keep ga (by omega))) (fun hHeld' => ?_)
              clear hHeld
              have hHeld := hHeld'
              clear hHeld'
              clear hK K
              try (simp only [Act.put])
              refine wpAnyH_done (by kernel_rfl) ?_ _
              refine NoPanic.normal ?_
              go_wp2_with fail
              exact bodyPost_ret (results_tmp_cell rfl _ _ (w.heap.size + 1) 82 (plL A n c a2 2).toArray (0, 0) _ rfl h9 hU rfl (info_plA _ _ _ _ _)) rfl ⟨a2, by rw [HE.out.1, HE.out.2]; rfl, ⟨hS2.le, fun h => by rw [HE.out.1] at h; cases h⟩, ht9.below (below_then hbb hbb.size (Below.drew (Below.refl _ _))) (by omega)⟩
            · have hm2' : decide ((m : Int) < x) = false := decide_eq_false hm2
              have HE := Lib.hid (HCF.out.ok h2 hl hm2)
              have hwx : IntKind.i64.wrap x = x := by rw [IntKind.wrap_i64]; omega
              have HV : Hid (x = ((s.countV m : Nat) : Int)) := Lib.hid (by rw [HE.out.2]; omega)
              have ga := g4
              have gb := gr4
              go_upto_region 19 with fail
              refine wp_region_noPanic ?_
              refine wp_region_held_drew (S := fun w' => w'.rangeAt w1.heap.size 0 (plL A n c a2 s2.e)) (by kernel_rfl) (range_block ga) (fun hHeld => ?_)
              -- 0: ref.go:170 slot 59 := Op.move t9
              refine wpAnyH_take (i := 0) (oi := ⟨some 59, _, _, _, _, _⟩) (v := ?_) rfl (by kernel_rfl) (by kernel_rfl) (by kernel_rfl) (fun _ _ _ h => h) (Or.inl ⟨by rfl, ?_⟩) (by assumption) ?_
              rotate_left 1
              · intro w hSw; (try dsimp only at hSw); go_simp; try with_reducible rfl
              simp only [Act.put, List.setIfInBounds_toArray, List.set_cons_zero, List.set_cons_succ]
              -- 1: ref.go:170 slot 60 := Op.convert 76 3 t59
              refine wpAnyH_take (i := 1) (oi := ⟨some 60, _, _, _, _, _⟩) (v := ?_) rfl (by kernel_rfl) (by kernel_rfl) (by kernel_rfl) (fun _ _ _ h => h) (Or.inl ⟨by rfl, ?_⟩) (by assumption) ?_
              rotate_left 1
              · intro w hSw; (try dsimp only at hSw); go_simp; try with_reducible rfl
              simp only [Act.put, List.setIfInBounds_toArray, List.set_cons_zero, List.set_cons_succ]
              -- 2: ref.go:170 slot 61 := Op.load 82 t7
              refine wpAnyH_take (i := 2) (oi := ⟨some 61, _, _, _, _, _⟩) rfl (by kernel_rfl) (by kernel_rfl) (by kernel_rfl) (fun _ _ _ h => h) (yieldsIf_load_mid (by rfl) _ _ rfl _ _ rfl ((plL A n c a2 s2.e)) _ (fun _ h => h) hU rfl (info_pl _ _ _ _ _)) (by assumption) ?_
              simp only [Act.put, List.setIfInBounds_toArray, List.set_cons_zero, List.set_cons_succ]
              -- 3: ref.go:170 slot 4 := Op.assign t60
              refine wpAnyH_take (i := 3) (oi := ⟨some 4, _, _, _, _, _⟩) (v := ?_) rfl (by kernel_rfl) (by kernel_rfl) (by kernel_rfl) (fun _ _ _ h => h) (Or.inl ⟨by rfl, ?_⟩) (by assumption) ?_
              rotate_left 1
              · intro w hSw; (try dsimp only at hSw); go_simp; try with_reducible rfl
              simp only [Act.put, List.setIfInBounds_toArray, List.set_cons_zero, List.set_cons_succ]
              -- 4: ref.go:170 slot none := Op.store 82 t5 t61
              refine wpAnyH_ready (rs := [4]) (by kernel_rfl) (by simp) ?_
              refine AllReadyH.cons (o := ⟨none, _, _, _, _, _⟩) rfl (fun K hK => ?_) AllReadyH.nil
              refine step_store_any (by rfl) 82 (.tmp 5) (.tmp 61) (by rfl) (w.heap.size + 1) ((plL A n c a2 s2.e)).toArray (by rfl) (by rfl) 82 (plL none 0 0 0 0).toArray gb (info_plA _ _ _ _ _) rfl (pl_all _ _ _ _ _) ?_
              intro w9 h9 ht9
              refine hK.out _ _ (range_block (ht9.keep ga (by omega))) (fun hHeld' => ?_)
              clear hHeld
              have hHeld := hHeld'
              clear hHeld'
              clear hK K
              try (simp only [Act.put])
              refine wpAnyH_done (by kernel_rfl) ?_ _
              refine NoPanic.normal ?_
              go_wp2_with fail
              exact bodyPost_ret (results_tmp_cell rfl _ _ (w.heap.size + 1) 82 (plL A n c a2 s2.e).toArray (0, 0) _ rfl h9 hU rfl (info_plA _ _ _ _ _)) rfl ⟨a2, by rw [← HV.out, HE.out.1]; rfl, by rw [HE.out.1]; exact hS2, ht9.below (below_then hB4 hB4.size (Below.drew (Below.refl _ _))) (by omega)⟩
        · have h2' : (s2.e == 0) = false := beq_eq_false_iff_ne.2 h2
          have HE := Lib.hid (HCF.out.bad h2)
          have ga := g4
          have gb := gr4
          go_upto_region 18 with fail
          refine wp_region_noPanic ?_
          refine wp_region_held_drew (S := fun w' => w'.rangeAt w1.heap.size 0 (plL A n c a2 s2.e)) (by kernel_rfl) (range_block ga) (fun hHeld => ?_)
          -- 0: ref.go:168 slot 58 := Op.load 82 t7
          refine wpAnyH_take (i := 0) (oi := ⟨some 58, _, _, _, _, _⟩) rfl (by kernel_rfl) (by kernel_rfl) (by kernel_rfl) (fun _ _ _ h => h) (yieldsIf_load_mid (by rfl) _ _ rfl _ _ rfl ((plL A n c a2 s2.e)) _ (fun _ h => h) hU rfl (info_pl _ _ _ _ _)) (by assumption) ?_
          simp only [Act.put, List.setIfInBounds_toArray, List.set_cons_zero, List.set_cons_succ]
          -- 1: ref.go:168 slot 4 := Op.assign (const (0:i64))
          refine wpAnyH_take (i := 1) (oi := ⟨some 4, _, _, _, _, _⟩) (v := ?_) rfl (by kernel_rfl) (by kernel_rfl) (by kernel_rfl) (fun _ _ _ h => h) (Or.inl ⟨by rfl, ?_⟩) (by assumption) ?_
          rotate_left 1
          · intro w hSw; (try dsimp only at hSw); go_simp; try with_reducible rfl
          simp only [Act.put, List.setIfInBounds_toArray, List.set_cons_zero, List.set_cons_succ]
          -- 2: ref.go:168 slot none := Op.store 82 t5 t58
          refine wpAnyH_ready (rs := [2]) (by kernel_rfl) (by simp) ?_
          refine AllReadyH.cons (o := ⟨none, _, _, _, _, _⟩) rfl (fun K hK => ?_) AllReadyH.nil
          refine step_store_any (by rfl) 82 (.tmp 5) (.tmp 58) (by rfl) (w.heap.size + 1) ((plL A n c a2 s2.e)).toArray (by rfl) (by rfl) 82 (plL none 0 0 0 0).toArray gb (info_plA _ _ _ _ _) rfl (pl_all _ _ _ _ _) ?_
          intro w9 h9 ht9
          refine hK.out _ _ (range_block (ht9.keep ga (by omega))) (fun hHeld' => ?_)
          clear hHeld
          have hHeld := hHeld'
          clear hHeld'
          clear hK K
          try (simp only [Act.put])
          refine wpAnyH_done (by kernel_rfl) ?_ _
          refine NoPanic.normal ?_
          go_wp2_with fail
          exact bodyPost_ret (results_tmp_cell rfl _ _ (w.heap.size + 1) 82 (plL A n c a2 s2.e).toArray (0, 0) _ rfl h9 hU rfl (info_plA _ _ _ _ _)) rfl ⟨a2, by rw [HE.out.1, HE.out.2]; rfl, ⟨hS2.le, fun h => absurd (HE.out.1 ▸ h) h2⟩, ht9.below (below_then hB4 hB4.size (Below.drew (Below.refl _ _))) (by omega)⟩
      · by_cases c2 : b1 = 254
        · obtain rfl : b1 = 254 := by omega
          have HCF0 : Hid (CF m s 65536 (ofLE (s1.takeB 4)) (s1.take 4)) := Lib.hid (by rw [HSR.out, HR1.out]; exact CF.great (b := 254) (by omega) hrb)
          go_wp2_with (first | ((with_reducible refine wpList_at 30 ?_); refine wpList_load_row rfl 82 (.tmp 7) rfl w1.heap.size rfl 82 _ _ _ g2 hU rfl (info_plA _ _ _ _ _) ?_))
          have hcall := number_calls w2 A n c bs hn hr2 hby a1 s1 hS1 4 (by decide) (by decide)
          rw [he] at hcall
          refine hcall.mono ?_
          clear hcall
          rintro e w3 ⟨a2, rfl, hS2, hb3⟩
          have hB3 := below_then hB2 hB2.size hb3
          have gr3 := heap_below hb3 gr2
          have g3 := heap_below hb3 g2
          obtain ⟨s2, hs2⟩ : ∃ s2, s1.take 4 = s2 := ⟨_, rfl⟩
          obtain ⟨x, hx⟩ : ∃ x, ofLE (s1.takeB 4) = x := ⟨_, rfl⟩
          have hx3 := ofLE_lt8 (s1.takeB 4) (PSt.takeB_bytes (by rw [HR1.out]; exact hrb) 4) (Nat.le_trans (PSt.takeB_len _ _) (by decide))
          rw [hs2] at hS2 HCF0 ⊢
          rw [hx] at HCF0 hx3 ⊢
          have HCF : Hid (CF m s 65536 x s2) := HCF0
          have hx1 := hx3.1
          have hx2 : x < 18446744073709551616 := hx3.2
          clear hs2 hx HCF0 hb3 hx3 gr2 g2 t2 f2
          go_upto_region 11 with (first | ((with_reducible refine wpList_atS 7 ?_); refine wpList_store_any rfl 82 (.tmp 7) (.tmp 33) rfl w1.heap.size (plL A n c a2 s2.e).toArray rfl rfl 82 (plL A n c a1 s1.e).toArray g3 (info_plA _ _ _ _ _) rfl (pl_all _ _ _ _ _) ?_; intro w4 g4 ht4))
          have gr4 := ht4.keep gr3 (by omega)
          have hB4 := ht4.below hB3 (by omega)
          have t4 : w4.cell? ⟨w1.heap.size, 2, none⟩ = some (.int .i64 s2.e) := blk_cell g4 rfl
          have f4 := blk_frozen g4 2
          clear g3 gr3 hB3 ht4
          go_upto_region 15 with fail
          by_cases h2 : s2.e = 0
          · have h2' : (s2.e == 0) = true := beq_iff_eq.2 h2
            by_cases hl : x < 65536
            · have hl' : decide (x < 65536) = true := decide_eq_true hl
              have HE := Lib.hid (HCF.out.low h2 hl)
              go_upto_region 17 with fail
              have ga : (w4.setCell ⟨w1.heap.size, 2, none⟩ (.int .i64 2)).heap[w1.heap.size]? = some (.cells (plL A n c a2 2).toArray 82) := blk_set g4 2 (.int .i64 2)
              have hta := turned_setCell w4 w1.heap.size 2 (.int .i64 2)
              have gb := hta.keep gr4 (by omega)
              have hbb := hta.below hB4 (by omega)
              have tn : (w4.setCell ⟨w1.heap.size, 2, none⟩ (.int .i64 2)).cell? ⟨w1.heap.size, 2, none⟩ = some (.int .i64 2) := blk_cell ga rfl
              go_upto_region 18 with fail
              refine wp_region_noPanic ?_
              refine wp_region_held_drew (S := fun w' => w'.rangeAt w1.heap.size 0 (plL A n c a2 2)) (by kernel_rfl) (range_block ga) (fun hHeld => ?_)
              -- 0: ref.go:168 slot 58 := Op.load 82 t7
              refine wpAnyH_take (i := 0) (oi := ⟨some 58, _, _, _, _, _⟩) rfl (by kernel_rfl) (by kernel_rfl) (by kernel_rfl) (fun _ _ _ h => h) (yieldsIf_load_mid (by rfl) _ _ rfl _ _ rfl ((plL A n c a2 2)) _ (fun _ h => h) hU rfl (info_pl _ _ _ _ _)) (by assumption) ?_
              simp only [Act.put, List.setIfInBounds_toArray, List.set_cons_zero, List.set_cons_succ]
              -- 1: ref.go:168 slot 4 := Op.assign (const (0:i64))
              refine wpAnyH_take (i := 1) (oi := ⟨some 4, _, _, _, _, _⟩) (v := ?_) rfl (by kernel_rfl) (by kernel_rfl) (by kernel_rfl) (fun _ _ _ h => h) (Or.inl ⟨by rfl, ?_⟩) (by assumption) ?_
              rotate_left 1
              · intro w hSw; (try dsimp only at hSw); go_simp; try with_reducible rfl
              simp only [Act.put, List.setIfInBounds_toArray, List.set_cons_zero, List.set_cons_succ]
              -- 2: ref.go:168 slot none := Op.store 82 t5 t58
              refine wpAnyH_ready (rs := [2]) (by kernel_rfl) (by simp) ?_
              refine AllReadyH.cons (o := ⟨none, _, _, _, _, _⟩) rfl (fun K hK => ?_) AllReadyH.nil
              refine step_store_any (by rfl) 82 (.tmp 5) (.tmp 58) (by rfl) (w.heap.size + 1) ((plL A n c a2 2)).toArray (by rfl) (by rfl) 82 (plL none 0 0 0 0).toArray gb (info_plA _ _ _ _ _) rfl (pl_all _ _ _ _ _) ?_
              intro w9 h9 ht9
              refine hK.out _ _ (range_block (ht9.keep ga (by omega))) (fun hHeld' => ?_)
              clear hHeld
              have hHeld := hHeld'
              clear hHeld'
              clear hK K
              try (simp only [Act.put])
              refine wpAnyH_done (by kernel_rfl) ?_ _
              refine NoPanic.normal ?_
              go_wp2_with fail
              exact bodyPost_ret (results_tmp_cell rfl _ _ (w.heap.size + 1) 82 (plL A n c a2 2).toArray (0, 0) _ rfl h9 hU rfl (info_plA _ _ _ _ _)) rfl ⟨a2, by rw [HE.out.1, HE.out.2]; rfl, ⟨hS2.le, fun h => by rw [HE.out.1] at h; cases h⟩, ht9.below (below_then hbb hbb.size (Below.drew (Below.refl _ _))) (by omega)⟩
            · have hl' : decide (x < 65536) = false := decide_eq_false hl
              by_cases hm2 : (m : Int) < x
              · have hm2' : decide ((m : Int) < x) = true := decide_eq_true hm2
                have HE := Lib.hid (HCF.out.high h2 hl hm2)
                go_upto_region 17 with fail
                have ga : (w4.setCell ⟨w1.heap.size, 2, none⟩ (.int .i64 2)).heap[w1.heap.size]? = some (.cells (plL A n c a2 2).toArray 82) := blk_set g4 2 (.int .i64 2)
                have hta := turned_setCell w4 w1.heap.size 2 (.int .i64 2)
                have gb := hta.keep gr4 (by omega)
                have hbb := hta.below hB4 (by omega)
                have tn : (w4.setCell ⟨w1.heap.size, 2, none⟩ (.int .i64 2)).cell? ⟨w1.heap.size, 2, none⟩ = some (.int .i64 2) := blk_cell ga rfl
                go_upto_region 18 with fail
                refine wp_region_noPanic ?_
                refine wp_region_held_drew (S := fun w' => w'.rangeAt w1.heap.size 0 (plL A n c a2 2)) (by kernel_rfl) (range_block ga) (fun hHeld => ?_)
                -- 0: ref.go:168 slot 58 := Op.load 82 t7
                refine wpAnyH_take (i := 0) (oi := ⟨some 58, _, _, _, _, _⟩) rfl (by kernel_rfl) (by kernel_rfl) (by kernel_rfl) (fun _ _ _ h => h) (yieldsIf_load_mid (by rfl) _ _ rfl _ _ rfl ((plL A n c a2 2)) _ (fun _ h => h) hU rfl (info_pl _ _ _ _ _)) (by assumption) ?_
                simp only [Act.put, List.setIfInBounds_toArray, List.set_cons_zero, List.set_cons_succ]
                -- 1: ref.go:168 slot 4 := Op.assign (const (0:i64))
                refine wpAnyH_take (i := 1) (oi := ⟨some 4, _, _, _, _, _⟩) (v := ?_) rfl (by kernel_rfl) (by kernel_rfl) (by kernel_rfl) (fun _ _ _ h => h) (Or.inl ⟨by rfl, ?_⟩) (by assumption) ?_
                rotate_left 1
                · intro w hSw; (try dsimp only at hSw); go_simp; try with_reducible rfl
                simp only [Act.put, List.setIfInBounds_toArray, List.set_cons_zero, List.set_cons_succ]
                -- 2: ref.go:168 slot none := Op.store 82 t5 t58
                refine wpAnyH_ready (rs := [2]) (by kernel_rfl) (by simp) ?_
                refine AllReadyH.cons (o := ⟨none, _, _, _, _, _⟩) rfl (fun K hK => ?_) AllReadyH.nil
                refine step_store_any (by rfl) 82 (.tmp 5) (.tmp 58) (by rfl) (w.heap.size + 1) ((plL A n c a2 2)).toArray (by rfl) (by rfl) 82 (plL none 0 0 0 0).toArray gb (info_plA _ _ _ _ _) rfl (pl_all _ _ _ _ _) ?_
                intro w9 h9 ht9
                refine hK.out _ _ (range_block (ht9.keep ga (by omega))) (fun hHeld' => ?_)
                clear hHeld
                have hHeld := hHeld'
                clear hHeld'
                clear hK K
                try (simp only [Act.put])
                refine wpAnyH_done (by kernel_rfl) ?_ _
                refine NoPanic.normal ?_
                go_wp2_with fail
                exact bodyPost_ret (results_tmp_cell rfl _ _ (w.heap.size + 1) 82 (plL A n c a2 2).toArray (0, 0) _ rfl h9 hU rfl (info_plA _ _ _ _ _)) rfl ⟨a2, by rw [HE.out.1, HE.out.2]; rfl, ⟨hS2.le, fun h => by rw [HE.out.1] at h; cases h⟩, ht9.below (below_then hbb hbb.size (Below.drew (Below.refl _ _))) (by omega)⟩
              · have hm2' : decide ((m : Int) < x) = false := decide_eq_false hm2
                have HE := Lib.hid (HCF.out.ok h2 hl hm2)
                have hwx : IntKind.i64.wrap x = x := by rw [IntKind.wrap_i64]; omega
                have HV : Hid (x = ((s.countV m : Nat) : Int)) := Lib.hid (by rw [HE.out.2]; omega)
                have ga := g4
                have gb := gr4
                go_upto_region 19 with fail
                refine wp_region_noPanic ?_
                refine wp_region_held_drew (S := fun w' => w'.rangeAt w1.heap.size 0 (plL A n c a2 s2.e)) (by kernel_rfl) (range_block ga) (fun hHeld => ?_)
                -- 0: ref.go:170 slot 59 := Op.move t9
                refine wpAnyH_take (i := 0) (oi := ⟨some 59, _, _, _, _, _⟩) (v := ?_) rfl (by kernel_rfl) (by kernel_rfl) (by kernel_rfl) (fun _ _ _ h => h) (Or.inl ⟨by rfl, ?_⟩) (by assumption) ?_
                rotate_left 1
                · intro w hSw; (try dsimp only at hSw); go_simp; try with_reducible rfl
                simp only [Act.put, List.setIfInBounds_toArray, List.set_cons_zero, List.set_cons_succ]
                -- 1: ref.go:170 slot 60 := Op.convert 76 3 t59
                refine wpAnyH_take (i := 1) (oi := ⟨some 60, _, _, _, _, _⟩) (v := ?_) rfl (by kernel_rfl) (by kernel_rfl) (by kernel_rfl) (fun _ _ _ h => h) (Or.inl ⟨by rfl, ?_⟩) (by assumption) ?_
                rotate_left 1
                · intro w hSw; (try dsimp only at hSw); go_simp; try with_reducible rfl
                simp only [Act.put, List.setIfInBounds_toArray, List.set_cons_zero, List.set_cons_succ]
                -- 2: ref.go:170 slot 61 := Op.load 82 t7
                refine wpAnyH_take (i := 2) (oi := ⟨some 61, _, _, _, _, _⟩) rfl (by kernel_rfl) (by kernel_rfl) (by kernel_rfl) (fun _ _ _ h => h) (yieldsIf_load_mid (by rfl) _ _ rfl _ _ rfl ((plL A n c a2 s2.e)) _ (fun _ h => h) hU rfl (info_pl _ _ _ _ _)) (by assumption) ?_
                simp only [Act.put, List.setIfInBounds_toArray, List.set_cons_zero, List.set_cons_succ]
                -- 3: ref.go:170 slot 4 := Op.assign t60
                refine wpAnyH_take (i := 3) (oi := ⟨some 4, _, _, _, _, _⟩) (v := ?_) rfl (by kernel_rfl) (by kernel_rfl) (by kernel_rfl) (fun _ _ _ h => h) (Or.inl ⟨by rfl, ?_⟩) (by assumption) ?_
                rotate_left 1
                · intro w hSw; (try dsimp only at hSw); go_simp; try with_reducible rfl
                simp only [Act.put, List.setIfInBounds_toArray, List.set_cons_zero, List.set_cons_succ]
                -- 4: ref.go:170 slot none := Op.store 82 t5 t61
                refine wpAnyH_ready (rs := [4]) (by kernel_rfl) (by simp) ?_
                refine AllReadyH.cons (o := ⟨none, _, _, _, _, _⟩) rfl (fun K hK => ?_) AllReadyH.nil
                refine step_store_any (by rfl) 82 (.tmp 5) (.tmp 61) (by rfl) (w.heap.size + 1) ((plL A n c a2 s2.e)).toArray (by rfl) (by rfl) 82 (plL none 0 0 0 0).toArray gb (info_plA _ _ _ _ _) rfl (pl_all _ _ _ _ _) ?_
                intro w9 h9 ht9
                refine hK.out _ _ (range_block (ht9.keep ga (by omega))) (fun hHeld' => ?_)
                clear hHeld
                have hHeld := hHeld'
                clear hHeld'
                clear hK K
                try (simp only [Act.put])
                refine wpAnyH_done (by kernel_rfl) ?_ _
                refine NoPanic.normal ?_
                go_wp2_with fail
                exact bodyPost_ret (results_tmp_cell rfl _ _ (w.heap.size + 1) 82 (plL A n c a2 s2.e).toArray (0, 0) _ rfl h9 hU rfl (info_plA _ _ _ _ _)) rfl ⟨a2, by rw [← HV.out, HE.out.1]; rfl, by rw [HE.out.1]; exact hS2, ht9.below (below_then hB4 hB4.size (Below.drew (Below.refl _ _))) (by omega)⟩
          · have h2' : (s2.e == 0) = false := beq_eq_false_iff_ne.2 h2
            have HE := Lib.hid (HCF.out.bad h2)
            have ga := g4
            have gb := gr4
            go_upto_region 18 with fail
            refine wp_region_noPanic ?_
            refine wp_region_held_drew (S := fun w' => w'.rangeAt w1.heap.size 0 (plL A n c a2 s2.e)) (by kernel_rfl) (range_block ga) (fun hHeld => ?_)
            -- 0: ref.go:168 slot 58 := Op.load 82 t7
            refine wpAnyH_take (i := 0) (oi := ⟨some 58, _, _, _, _, _⟩) rfl (by kernel_rfl) (by kernel_rfl) (by kernel_rfl) (fun _ _ _ h => h) (yieldsIf_load_mid (by rfl) _ _ rfl _ _ rfl ((plL A n c a2 s2.e)) _ (fun _ h => h) hU rfl (info_pl _ _ _ _ _)) (by assumption) ?_
            simp only [Act.put, List.setIfInBounds_toArray, List.set_cons_zero, List.set_cons_succ]
            -- 1: ref.go:168 slot 4 := Op.assign (const (0:i64))
            refine wpAnyH_take (i := 1) (oi := ⟨some 4, _, _, _, _, _⟩) (v := ?_) rfl (by kernel_rfl) (by kernel_rfl) (by kernel_rfl) (fun _ _ _ h => h) (Or.inl ⟨by rfl, ?_⟩) (by assumption) ?_
            rotate_left 1
            · intro w hSw; (try dsimp only at hSw); go_simp; try with_reducible rfl
            simp only [Act.put, List.setIfInBounds_toArray, List.set_cons_zero, List.set_cons_succ]
            -- 2: ref.go:168 slot none := Op.store 82 t5 t58
            refine wpAnyH_ready (rs := [2]) (by kernel_rfl) (by simp) ?_
            refine AllReadyH.cons (o := ⟨none, _, _, _, _, _⟩) rfl (fun K hK => ?_) AllReadyH.nil
            refine step_store_any (by rfl) 82 (.tmp 5) (.tmp 58) (by rfl) (w.heap.size + 1) ((plL A n c a2 s2.e)).toArray (by rfl) (by rfl) 82 (plL none 0 0 0 0).toArray gb (info_plA _ _ _ _ _) rfl (pl_all _ _ _ _ _) ?_
            intro w9 h9 ht9
            refine hK.out _ _ (range_block (ht9.keep ga (by omega))) (fun hHeld' => ?_)
            clear hHeld
            have hHeld := hHeld'
            clear hHeld'
            clear hK K
            try (simp only [Act.put])
            refine wpAnyH_done (by kernel_rfl) ?_ _
            refine NoPanic.normal ?_
            go_wp2_with fail
            exact bodyPost_ret (results_tmp_cell rfl _ _ (w.heap.size + 1) 82 (plL A n c a2 s2.e).toArray (0, 0) _ rfl h9 hU rfl (info_plA _ _ _ _ _)) rfl ⟨a2, by rw [HE.out.1, HE.out.2]; rfl, ⟨hS2.le, fun h => absurd (HE.out.1 ▸ h) h2⟩, ht9.below (below_then hB4 hB4.size (Below.drew (Below.refl _ _))) (by omega)⟩
        · obtain rfl : b1 = 255 := by omega
          have HCF0 : Hid (CF m s 4294967296 (ofLE (s1.takeB 8)) (s1.take 8)) := Lib.hid (by rw [HSR.out, HR1.out]; exact CF.great (b := 255) (by omega) hrb)
          go_wp2_with (first | ((with_reducible refine wpList_at 37 ?_); refine wpList_load_row rfl 82 (.tmp 7) rfl w1.heap.size rfl 82 _ _ _ g2 hU rfl (info_plA _ _ _ _ _) ?_))
          have hcall := number_calls w2 A n c bs hn hr2 hby a1 s1 hS1 8 (by decide) (by decide)
          rw [he] at hcall
          refine hcall.mono ?_
          clear hcall
          rintro e w3 ⟨a2, rfl, hS2, hb3⟩
          have hB3 := below_then hB2 hB2.size hb3
          have gr3 := heap_below hb3 gr2
          have g3 := heap_below hb3 g2
          obtain ⟨s2, hs2⟩ : ∃ s2, s1.take 8 = s2 := ⟨_, rfl⟩
          obtain ⟨x, hx⟩ : ∃ x, ofLE (s1.takeB 8) = x := ⟨_, rfl⟩
          have hx3 := ofLE_lt8 (s1.takeB 8) (PSt.takeB_bytes (by rw [HR1.out]; exact hrb) 8) (Nat.le_trans (PSt.takeB_len _ _) (by decide))
          rw [hs2] at hS2 HCF0 ⊢
          rw [hx] at HCF0 hx3 ⊢
          have HCF : Hid (CF m s 4294967296 x s2) := HCF0
          have hx1 := hx3.1
          have hx2 : x < 18446744073709551616 := hx3.2
          clear hs2 hx HCF0 hb3 hx3 gr2 g2 t2 f2
          go_upto_region 14 with (first | ((with_reducible refine wpList_atS 7 ?_); refine wpList_store_any rfl 82 (.tmp 7) (.tmp 40) rfl w1.heap.size (plL A n c a2 s2.e).toArray rfl rfl 82 (plL A n c a1 s1.e).toArray g3 (info_plA _ _ _ _ _) rfl (pl_all _ _ _ _ _) ?_; intro w4 g4 ht4))
          have gr4 := ht4.keep gr3 (by omega)
          have hB4 := ht4.below hB3 (by omega)
          have t4 : w4.cell? ⟨w1.heap.size, 2, none⟩ = some (.int .i64 s2.e) := blk_cell g4 rfl
          have f4 := blk_frozen g4 2
          clear g3 gr3 hB3 ht4
          go_upto_region 15 with fail
          by_cases h2 : s2.e = 0
          · have h2' : (s2.e == 0) = true := beq_iff_eq.2 h2
            by_cases hl : x < 4294967296
            · have hl' : decide (x < 4294967296) = true := decide_eq_true hl
              have HE := Lib.hid (HCF.out.low h2 hl)
              go_upto_region 17 with fail
              have ga : (w4.setCell ⟨w1.heap.size, 2, none⟩ (.int .i64 2)).heap[w1.heap.size]? = some (.cells (plL A n c a2 2).toArray 82) := blk_set g4 2 (.int .i64 2)
              have hta := turned_setCell w4 w1.heap.size 2 (.int .i64 2)
              have gb := hta.keep gr4 (by omega)
              have hbb := hta.below hB4 (by omega)
              have tn : (w4.setCell ⟨w1.heap.size, 2, none⟩ (.int .i64 2)).cell? ⟨w1.heap.size, 2, none⟩ = some (.int .i64 2) := blk_cell ga rfl
              go_upto_region 18 with fail
              refine wp_region_noPanic ?_
              refine wp_region_held_drew (S := fun w' => w'.rangeAt w1.heap.size 0 (plL A n c a2 2)) (by kernel_rfl) (range_block ga) (fun hHeld => ?_)
              -- 0: ref.go:168 slot 58 := Op.load 82 t7
              refine wpAnyH_take (i := 0) (oi := ⟨some 58, _, _, _, _, _⟩) rfl (by kernel_rfl) (by kernel_rfl) (by kernel_rfl) (fun _ _ _ h => h) (yieldsIf_load_mid (by rfl) _ _ rfl _ _ rfl ((plL A n c a2 2)) _ (fun _ h => h) hU rfl (info_pl _ _ _ _ _)) (by assumption) ?_
              simp only [Act.put, List.setIfInBounds_toArray, List.set_cons_zero, List.set_cons_succ]
              -- 1: ref.go:168 slot 4 := Op.assign (const (0:i64))
              refine wpAnyH_take (i := 1) (oi := ⟨some 4, _, _, _, _, _⟩) (v := ?_) rfl (by kernel_rfl) (by kernel_rfl) (by kernel_rfl) (fun _ _ _ h => h) (Or.inl ⟨by rfl, ?_⟩) (by assumption) ?_
              rotate_left 1
              · intro w hSw; (try dsimp only at hSw); go_simp; try with_reducible rfl
              simp only [Act.put, List.setIfInBounds_toArray, List.set_cons_zero, List.set_cons_succ]
              -- 2: ref.go:168 slot none := Op.store 82 t5 t58
              refine wpAnyH_ready (rs := [2]) (by kernel_rfl) (by simp) ?_
              refine AllReadyH.cons (o := ⟨none, _, _, _, _, _⟩) rfl (fun K hK => ?_) AllReadyH.nil
              refine step_store_any (by rfl) 82 (.tmp 5) (.tmp 58) (by rfl) (w.heap.size + 1) ((plL A n c a2 2)).toArray (by rfl) (by rfl) 82 (plL none 0 0 0 0).toArray gb (info_plA _ _ _ _ _) rfl (pl_all _ _ _ _ _) ?_
              intro w9 h9 ht9
              refine hK.out _ _ (range_block (ht9.keep ga (by omega))) (fun hHeld' => ?_)
              clear hHeld
              have hHeld := hHeld'
              clear hHeld'
              clear hK K
              try (simp only [Act.put])
              refine wpAnyH_done (by kernel_rfl) ?_ _
              refine NoPanic.normal ?_
              go_wp2_with fail
              exact bodyPost_ret (results_tmp_cell rfl _ _ (w.heap.size + 1) 82 (plL A n c a2 2).toArray (0, 0) _ rfl h9 hU rfl (info_plA _ _ _ _ _)) rfl ⟨a2, by rw [HE.out.1, HE.out.2]; rfl, ⟨hS2.le, fun h => by rw [HE.out.1] at h; cases h⟩, ht9.below (below_then hbb hbb.size (Below.drew (Below.refl _ _))) (by omega)⟩
            · have hl' : decide (x < 4294967296) = false := decide_eq_false hl
              by_cases hm2 : (m : Int) < x
              · have hm2' : decide ((m : Int) < x) = true := decide_eq_true hm2
                have HE := Lib.hid (HCF.out.high h2 hl hm2)
                go_upto_region 17 with fail
                have ga : (w4.setCell ⟨w1.heap.size, 2, none⟩ (.int .i64 2)).heap[w1.heap.size]? = some (.cells (plL A n c a2 2).toArray 82) := blk_set g4 2 (.int .i64 2)
                have hta := turned_setCell w4 w1.heap.size 2 (.int .i64 2)
                have gb := hta.keep gr4 (by omega)
                have hbb := hta.below hB4 (by omega)
                have tn : (w4.setCell ⟨w1.heap.size, 2, none⟩ (.int .i64 2)).cell? ⟨w1.heap.size, 2, none⟩ = some (.int .i64 2) := blk_cell ga rfl
                go_upto_region 18 with fail
                refine wp_region_noPanic ?_
                refine wp_region_held_drew (S := fun w' => w'.rangeAt w1.heap.size 0 (plL A n c a2 2)) (by kernel_rfl) (range_block ga) (fun hHeld => ?_)
                -- 0: ref.go:168 slot 58 := Op.load 82 t7
                refine wpAnyH_take (i := 0) (oi := ⟨some 58, _, _, _, _, _⟩) rfl (by kernel_rfl) (by kernel_rfl) (by kernel_rfl) (fun _ _ _ h => h) (yieldsIf_load_mid (by rfl) _ _ rfl _ _ rfl ((plL A n c a2 2)) _ (fun _ h => h) hU rfl (info_pl _ _ _ _ _)) (by assumption) ?_
                simp only [Act.put, List.setIfInBounds_toArray, List.set_cons_zero, List.set_cons_succ]
                -- 1: ref.go:168 slot 4 := Op.assign (const (0:i64))
                refine wpAnyH_take (i := 1) (oi := ⟨some 4, _, _, _, _, _⟩) (v := ?_) rfl (by kernel_rfl) (by kernel_rfl) (by kernel_rfl) (fun _ _ _ h => h) (Or.inl ⟨by rfl, ?_⟩) (by assumption) ?_
                rotate_left 1
                · intro w hSw; (try dsimp only at hSw); go_simp; try with_reducible rfl
                simp only [Act.put, List.setIfInBounds_toArray, List.set_cons_zero, List.set_cons_succ]
                -- 2: ref.go:168 slot none := Op.store 82 t5 t58
                refine wpAnyH_ready (rs := [2]) (by kernel_rfl) (by simp) ?_
                refine AllReadyH.cons (o := ⟨none, _, _, _, _, _⟩) rfl (fun K hK => ?_) AllReadyH.nil
                refine step_store_any (by rfl) 82 (.tmp 5) (.tmp 58) (by rfl) (w.heap.size + 1) ((plL A n c a2 2)).toArray (by rfl) (by rfl) 82 (plL none 0 0 0 0).toArray gb (info_plA _ _ _ _ _) rfl (pl_all _ _ _ _ _) ?_
                intro w9 h9 ht9
                refine hK.out _ _ (range_block (ht9.keep ga (by omega))) (fun hHeld' => ?_)
                clear hHeld
                have hHeld := hHeld'
                clear hHeld'
                clear hK K
                try (simp only [Act.put])
                refine wpAnyH_done (by kernel_rfl) ?_ _
                refine NoPanic.normal ?_
                go_wp2_with fail
                exact bodyPost_ret (results_tmp_cell rfl _ _ (w.heap.size + 1) 82 (plL A n c a2 2).toArray (0, 0) _ rfl h9 hU rfl (info_plA _ _ _ _ _)) rfl ⟨a2, by rw [HE.out.1, HE.out.2]; rfl, ⟨hS2.le, fun h => by rw [HE.out.1] at h; cases h⟩, ht9.below (below_then hbb hbb.size (Below.drew (Below.refl _ _))) (by omega)⟩
              · exact absurd (show (m : Int) < x by omega) hm2
          · have h2' : (s2.e == 0) = false := beq_eq_false_iff_ne.2 h2
            have HE := Lib.hid (HCF.out.bad h2)
            have ga := g4
            have gb := gr4
            go_upto_region 18 with fail
            refine wp_region_noPanic ?_
            refine wp_region_held_drew (S := fun w' => w'.rangeAt w1.heap.size 0 (plL A n c a2 s2.e)) (by kernel_rfl) (range_block ga) (fun hHeld => ?_)
            -- 0: ref.go:168 slot 58 := Op.load 82 t7
            refine wpAnyH_take (i := 0) (oi := ⟨some 58, _, _, _, _, _⟩) rfl (by kernel_rfl) (by kernel_rfl) (by kernel_rfl) (fun _ _ _ h => h) (yieldsIf_load_mid (by rfl) _ _ rfl _ _ rfl ((plL A n c a2 s2.e)) _ (fun _ h => h) hU rfl (info_pl _ _ _ _ _)) (by assumption) ?_
            simp only [Act.put, List.setIfInBounds_toArray, List.set_cons_zero, List.set_cons_succ]
            -- 1: ref.go:168 slot 4 := Op.assign (const (0:i64))
            refine wpAnyH_take (i := 1) (oi := ⟨some 4, _, _, _, _, _⟩) (v := ?_) rfl (by kernel_rfl) (by kernel_rfl) (by kernel_rfl) (fun _ _ _ h => h) (Or.inl ⟨by rfl, ?_⟩) (by assumption) ?_
            rotate_left 1
            · intro w hSw; (try dsimp only at hSw); go_simp; try with_reducible rfl
            simp only [Act.put, List.setIfInBounds_toArray, List.set_cons_zero, List.set_cons_succ]
            -- 2: ref.go:168 slot none := Op.store 82 t5 t58
            refine wpAnyH_ready (rs := [2]) (by kernel_rfl) (by simp) ?_
            refine AllReadyH.cons (o := ⟨none, _, _, _, _, _⟩) rfl (fun K hK => ?_) AllReadyH.nil
            refine step_store_any (by rfl) 82 (.tmp 5) (.tmp 58) (by rfl) (w.heap.size + 1) ((plL A n c a2 s2.e)).toArray (by rfl) (by rfl) 82 (plL none 0 0 0 0).toArray gb (info_plA _ _ _ _ _) rfl (pl_all _ _ _ _ _) ?_
            intro w9 h9 ht9
            refine hK.out _ _ (range_block (ht9.keep ga (by omega))) (fun hHeld' => ?_)
            clear hHeld
            have hHeld := hHeld'
            clear hHeld'
            clear hK K
            try (simp only [Act.put])
            refine wpAnyH_done (by kernel_rfl) ?_ _
            refine NoPanic.normal ?_
            go_wp2_with fail
            exact bodyPost_ret (results_tmp_cell rfl _ _ (w.heap.size + 1) 82 (plL A n c a2 s2.e).toArray (0, 0) _ rfl h9 hU rfl (info_plA _ _ _ _ _)) rfl ⟨a2, by rw [HE.out.1, HE.out.2]; rfl, ⟨hS2.le, fun h => absurd (HE.out.1 ▸ h) h2⟩, ht9.below (below_then hB4 hB4.size (Below.drew (Below.refl _ _))) (by omega)⟩
  · have he' : (s1.e == 0) = false := beq_eq_false_iff_ne.2 he
    have HC : Hid ((s.count m).e = s1.e ∧ s.countV m = 0) := Lib.hid (by
      have h1 := HS1E.out
      by_cases hz : s.e = 0
      · have hbs : s.bs = [] := by
          rcases Nat.lt_or_ge 0 s.bs.length with hp | hp
          · exact absurd (by rw [← h1]; unfold PSt.take; rw [if_pos hz, if_pos (by omega)]) he
          · exact List.eq_nil_of_length_eq_zero (by omega)
        have h2 : s1.e = 8 := by rw [← h1]; unfold PSt.take; rw [if_pos hz, hbs]; rfl
        rw [h2]
        unfold PSt.count PSt.countV
        rw [hz, hbs]
        exact ⟨rfl, rfl⟩
      · have h2 : s1 = s := by rw [← h1]; exact PSt.take_bad hz 1
        rw [h2]
        exact ⟨by rw [PSt.count_bad hz], by unfold PSt.countV; rw [if_pos hz]⟩)
    go_upto_region 3 with fail
    refine wp_region_noPanic ?_
    refine wp_region_held_drew (S := fun w' => w'.rangeAt w1.heap.size 0 (plL A n c a1 s1.e)) (by kernel_rfl) (range_block g2) (fun hHeld => ?_)
    -- 0: ref.go:148 slot 18 := Op.load 82 t7
    refine wpAnyH_take (i := 0) (oi := ⟨some 18, _, _, _, _, _⟩) rfl (by kernel_rfl) (by kernel_rfl) (by kernel_rfl) (fun _ _ _ h => h) (yieldsIf_load_mid (by rfl) _ _ rfl _ _ rfl ((plL A n c a1 s1.e)) _ (fun _ h => h) hU rfl (info_pl _ _ _ _ _)) (by assumption) ?_
    simp only [Act.put, List.setIfInBounds_toArray, List.set_cons_zero, List.set_cons_succ]
    -- 1: ref.go:148 slot 4 := Op.assign (const (0:i64))
    refine wpAnyH_take (i := 1) (oi := ⟨some 4, _, _, _, _, _⟩) (v := ?_) rfl (by kernel_rfl) (by kernel_rfl) (by kernel_rfl) (fun _ _ _ h => h) (Or.inl ⟨by rfl, ?_⟩) (by assumption) ?_
    rotate_left 1
    · intro w hSw; (try dsimp only at hSw); go_simp; try with_reducible rfl
    simp only [Act.put, List.setIfInBounds_toArray, List.set_cons_zero, List.set_cons_succ]
    -- 2: ref.go:148 slot none := Op.store 82 t5 t18
    refine wpAnyH_ready (rs := [2]) (by kernel_rfl) (by simp) ?_
    refine AllReadyH.cons (o := ⟨none, _, _, _, _, _⟩) rfl (fun K hK => ?_) AllReadyH.nil
    refine step_store_any (by rfl) 82 (.tmp 5) (.tmp 18) (by rfl) (w.heap.size + 1) ((plL A n c a1 s1.e)).toArray (by rfl) (by rfl) 82 (plL none 0 0 0 0).toArray gr2 (info_plA _ _ _ _ _) rfl (pl_all _ _ _ _ _) ?_
    intro w9 h9 ht9
    refine hK.out _ _ (range_block (ht9.keep g2 (by omega))) (fun hHeld' => ?_)
    clear hHeld
    have hHeld := hHeld'
    clear hHeld'
    clear hK K
    try (simp only [Act.put])
    refine wpAnyH_done (by kernel_rfl) ?_ _
    refine NoPanic.normal ?_
    go_wp2_with fail
    exact bodyPost_ret (results_tmp_cell rfl _ _ (w.heap.size + 1) 82 (plL A n c a1 s1.e).toArray (0, 0) _ rfl h9 hU rfl (info_plA _ _ _ _ _)) rfl ⟨a1, by rw [HC.out.1, HC.out.2]; rfl, ⟨hS1.le, fun h => absurd (HC.out.1 ▸ h) he⟩, ht9.below (below_then hB2 hB2.size (Below.drew (Below.refl _ _))) (by omega)⟩
end Go.Proofs.Ytjlkakggmfmfiaa
