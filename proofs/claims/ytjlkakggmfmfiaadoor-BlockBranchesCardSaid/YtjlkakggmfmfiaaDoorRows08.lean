/- The reference's Rows: all rows of digests. -/
import Derived.Test.YtjlkakggmfmfiaaDoorAbove
import Derived.Test.YtjlkakggmfmfiaaDoorBlkRoot
set_option maxRecDepth 100000
set_option linter.unusedVariables false
namespace Go.Proofs.YtjlkakggmfmfiaaDoor
open Go Go.RowKit
abbrev rowK : RK (List (List Int)) := RK.slice hashK
theorem rowK_new {w : World} {base : Nat} {S : Nat → Prop} (e : TypeId) {A : Option Addr} {n c : Nat} {ids : List (List Int)} (hnc : n ≤ c) (hcm : c ≤ maxLen) (hC : hashK.C S w A n ids) (hb : base ≤ w.heap.size) :
    rowK.Own S (w.alloc (.cells #[.slice A n c] e)) base e (.slice (some ⟨w.heap.size, 0, none⟩) 1 1) 1 [ids] := by
  have how := own_new (w := w) (base := base) (e := e) [.slice A n c] hb (by show 1 ≤ maxLen; decide)
  refine ⟨rfl, [.slice A n c], how, fun i x hx => ?_⟩
  obtain rfl : i = 0 := by have := (List.getElem?_eq_some_iff.1 hx).1; simp at this; omega
  obtain rfl : ids = x := by simpa using hx
  exact ⟨[.slice A n c], ⟨A, n, c, rfl, hnc, hcm, RK.C.below hC ((Below.refl _ _).alloc (Nat.le_refl _) _)⟩, fun j u hu => by rw [show 0 * rowK.sz + j = j by omega]; exact hu⟩
theorem rowK_one {w : World} {S : Nat → Prop} {g : Nat} {t : TypeId} {fz : Nat × Nat} {A : Option Addr} {n c : Nat} {ids : List (List Int)} (h : w.heap[g]? = some (.cells #[.slice A n c] t fz)) (hS : S g) (hnc : n ≤ c) (hcm : c ≤ maxLen) (hC : hashK.C S w A n ids) :
    rowK.C S w (some ⟨g, 0, none⟩) 1 [ids] := by
  refine ⟨rfl, fun _ => ⟨g, 0, rfl, hS, heap_lt h, fun i x hx => ?_⟩⟩
  obtain rfl : i = 0 := by have := (List.getElem?_eq_some_iff.1 hx).1; simp at this; omega
  obtain rfl : ids = x := by simpa using hx
  refine ⟨[.slice A n c], ⟨A, n, c, rfl, hnc, hcm, hC⟩, fun j v hv => ?_⟩
  rw [show 0 + 0 * rowK.sz + j = j by omega]
  exact blk_cell h (by simpa using hv)
theorem zinfo_row : (Tryd.prog.info? 41).map (fun i => (i.zero, i.size, i.bytes)) = some (some (.slice none 0 0), 1, 24) := by kernel_rfl
def RowsPost (S0 : Nat → Prop) (w : World) (ids : List (List Int)) (e : Ending) (w' : World) : Prop := ∃ A' m c', e = .returned (.slice A' m c') ∧ rowK.C S0 w' A' m (rowsF ids) ∧ Below w.heap.size w w'
set_option maxHeartbeats 2000000 in
theorem rows_calls (w : World) (A : Option Addr) (n c : Nat) (ids : List (List Int)) (hnc : n ≤ c) (hcm : c ≤ maxLen) (hn : n ≤ 1000000) (S0 : Nat → Prop) (hS0 : ∀ k, w.heap.size ≤ k → S0 k) (hCS : hashK.C S0 w A n ids) :
    Calls Tryd.prog 66 #[.agg (nums .u32 tabs72).toArray, .slice A n c] w (RowsPost S0 w ids) := by
  have hC := HC.of hCS
  have hl := hC.len
  have u1 := Tryd.underlying31
  have it := ilen_tab
  have hb0 : Below w.heap.size w ((w.alloc (.cells (nums .u32 tabs72).toArray 31)).alloc (.cells #[.slice A n c] 41)) := ((Below.refl _ _).alloc (Nat.le_refl _) _).alloc (by simp) _
  have g0 : ((w.alloc (.cells (nums .u32 tabs72).toArray 31)).alloc (.cells #[.slice A n c] 41)).heap[w.heap.size]? = some (.cells (nums .u32 tabs72).toArray 31) := heap_alloc2_old _ _ _
  have hlow : hashK.C (fun k => k < w.heap.size ∧ S0 k) w A n ids := by
    refine ⟨hC.1, fun hp => ?_⟩
    obtain ⟨b, o, hA, hs, hb, hc⟩ := hCS.2 hp
    exact ⟨b, o, hA, ⟨hb, hs⟩, hb, fun i x hx => by obtain ⟨cs, hK, hcs⟩ := hc i x hx; exact ⟨cs, hK, hcs⟩⟩
  have hE : rowK.Own (fun k => k < w.heap.size ∧ S0 k) ((w.alloc (.cells (nums .u32 tabs72).toArray 31)).alloc (.cells #[.slice A n c] 41)) (w.heap.size + 1) 41 (.slice (some ⟨w.heap.size + 1, 0, none⟩) 1 1) 1 [ids] := by
    have := rowK_new (w := w.alloc (.cells (nums .u32 tabs72).toArray 31)) (base := w.heap.size + 1) 41 hnc hcm (RK.C.below hlow ((Below.refl _ _).alloc (Nat.le_refl _) _)) (by simp)
    simpa only [World.size_alloc] using this
  go_enter Tryd.func66, Tryd.ntmps66
  go_wp2
  go_loopw [5] (fun v5 wr => ∃ (done : List (List (List Int))) (cur : List (List Int)) (Ks : Nat → Prop) (A1 : Option Addr) (m c1 : Nat), Hid (rowsF ids = done ++ rowsF cur) ∧ m = done.length + 1 ∧ m + cur.length ≤ n + 1 ∧ v5 = .slice A1 m c1 ∧
    rowK.Own Ks wr (w.heap.size + 1) 41 (.slice A1 m c1) m (done ++ [cur]) ∧ Hid (∀ k, Ks k → k < wr.heap.size ∧ some k ≠ (Value.slice A1 m c1).ownBlock ∧ S0 k) ∧ Below w.heap.size w wr ∧ w.heap.size + 1 ≤ wr.heap.size ∧ wr.heap[w.heap.size]? = some (.cells (nums .u32 tabs72).toArray 31)) (fun v _ => n + 2 - sliceLen v)
  case atStart => exact ⟨[], ids, (fun k => k < w.heap.size ∧ S0 k), _, 1, 1, Lib.hid rfl, rfl, by omega, rfl, hE, Lib.hid (fun k hk => ⟨by have := hk.1; simp; omega, fun e => by have := hk.1; simp [Value.ownBlock] at e; omega, hk.2⟩), hb0, by simp, g0⟩
  case round =>
    clear hE hb0 g0 hlow
    obtain ⟨done, cur, Ks, A1, m, c1, HR, hmd, hmn, rfl, hO, HK, hB, hws, g0⟩ := hrel
    have hm0 : 0 < m := by omega
    obtain ⟨b, o, cs, x, hA, hx, ⟨A2, n2, c2, rfl, hn2, hc2, hCx⟩, hcell⟩ := (RK.Own.C_ (S' := fun k => k < wr.heap.size ∧ some k ≠ (Value.slice A1 m c1).ownBlock ∨ (Value.slice A1 m c1).ownBlock = some k) hO (fun k hk => .inl ⟨(HK.out k hk).1, (HK.out k hk).2.1⟩) (fun _ h => .inr h)).get (m - 1) (by omega)
    obtain rfl : cur = x := by
      rw [List.getElem?_append_right (by omega), hmd] at hx
      simpa using hx
    have hc0 := hcell 0 _ rfl
    rw [show o + (m - 1) * rowK.sz + 0 = o + (m - 1) by show o + (m - 1) * 1 + 0 = _; omega] at hc0
    have hl2 : cur.length = n2 := hCx.len
    subst hA
    have hm1 : (0 : Int) ≤ (m : Int) - 1 := by omega
    have hm2 : (m : Int) - 1 < (m : Int) := by omega
    have hm3 : (1 : Int) ≤ (m : Int) := by omega
    have hm4 : ((m : Int) - 1).toNat = m - 1 := by omega
    have hm5 : m ≤ 1000001 := by omega
    have hCc := HC.of hCx
    have HX := Lib.hid hx
    have HMD := Lib.hid hmd
    have HL2 := Lib.hid hl2
    clear hcell hx hmd hl2 hCx
    by_cases hlt : 1 < n2
    · have hlt' : (1 : Int) < (n2 : Int) := by omega
      have hw1 : IntKind.i64.wrap ((m : Int) - 1) = (m : Int) - 1 := IntWalk.i64_in _ (by omega)
      have rt := range_block g0
      go_upto_region 3 with fail
      refine wp_region_noPanic ?_
      refine wp_region_held_drew (S := fun w' => w'.rangeAt w.heap.size 0 (nums .u32 tabs72) ∧ w'.cell? ⟨b, o + (m - 1), none⟩ = some (.slice A2 n2 c2) ∧ Below wr.heap.size wr w') (by kernel_rfl) ⟨rt, hc0, Below.drew (Below.refl _ _)⟩ (fun hHeld => ?_)
      -- 0: ref.go:30 slot 17 := Op.load 31 t2
      refine wpAnyH_take (i := 0) (oi := ⟨some 17, _, _, _, _, _⟩) rfl (by kernel_rfl) (by kernel_rfl) (by kernel_rfl) (fun _ _ _ h => h) (yieldsIf_load_mid (by rfl) _ _ rfl _ _ rfl (nums .u32 tabs72) _ (fun _ h => h.1) u1 rfl it) (by assumption) ?_
      simp only [Act.put, List.setIfInBounds_toArray, List.set_cons_zero, List.set_cons_succ]
      -- 1: ref.go:30 slot 18 := Op.move t5
      refine wpAnyH_take (i := 1) (oi := ⟨some 18, _, _, _, _, _⟩) (v := ?_) rfl (by kernel_rfl) (by kernel_rfl) (by kernel_rfl) (fun _ _ _ h => h) (Or.inl ⟨by rfl, ?_⟩) (by assumption) ?_
      rotate_left 1
      · intro w hSw; (try dsimp only at hSw); go_simp; try with_reducible rfl
      simp only [Act.put, List.setIfInBounds_toArray, List.set_cons_zero, List.set_cons_succ]
      -- 2: ref.go:30 slot 19 := Op.move t5
      refine wpAnyH_take (i := 2) (oi := ⟨some 19, _, _, _, _, _⟩) (v := ?_) rfl (by kernel_rfl) (by kernel_rfl) (by kernel_rfl) (fun _ _ _ h => h) (Or.inl ⟨by rfl, ?_⟩) (by assumption) ?_
      rotate_left 1
      · intro w hSw; (try dsimp only at hSw); go_simp; try with_reducible rfl
      simp only [Act.put, List.setIfInBounds_toArray, List.set_cons_zero, List.set_cons_succ]
      -- 3: ref.go:30 slot 20 := Op.call { builtin len, args := #[t19], argTypes := #[137] }
      refine wpAnyH_take (i := 3) (oi := ⟨some 20, _, _, _, _, _⟩) (v := ?_) rfl (by kernel_rfl) (by kernel_rfl) (by kernel_rfl) (fun _ _ _ h => h) (Or.inl ⟨by rfl, ?_⟩) (by assumption) ?_
      rotate_left 1
      · intro w hSw; (try dsimp only at hSw); go_simp; try with_reducible rfl
      simp only [Act.put, List.setIfInBounds_toArray, List.set_cons_zero, List.set_cons_succ]
      -- 4: ref.go:30 slot 21 := Op.binOp BinOp.sub 3 t20 (const (1:i64)) 3
      refine wpAnyH_take (i := 4) (oi := ⟨some 21, _, _, _, _, _⟩) (v := ?_) rfl (by kernel_rfl) (by kernel_rfl) (by kernel_rfl) (fun _ _ _ h => h) (Or.inl ⟨by rfl, ?_⟩) (by assumption) ?_
      rotate_left 1
      · intro w hSw; (try dsimp only at hSw); go_simp; try with_reducible rfl
      simp only [Act.put, List.setIfInBounds_toArray, List.set_cons_zero, List.set_cons_succ]
      -- 5: ref.go:30 slot 22 := Op.indexAddr 137 t18 t21
      refine wpAnyH_take (i := 5) (oi := ⟨some 22, _, _, _, _, _⟩) (v := ?_) rfl (by kernel_rfl) (by kernel_rfl) (by kernel_rfl) (fun _ _ _ h => h) (Or.inl ⟨by rfl, ?_⟩) (by assumption) ?_
      rotate_left 1
      · intro w hSw; (try dsimp only at hSw); go_simp; try with_reducible rfl
      simp only [Act.put, List.setIfInBounds_toArray, List.set_cons_zero, List.set_cons_succ]
      -- 6: ref.go:30 slot 23 := Op.load 41 t22
      refine wpAnyH_take (i := 6) (oi := ⟨some 23, _, _, _, _, _⟩) (v := ?_) rfl (by kernel_rfl) (by kernel_rfl) (by kernel_rfl) (fun _ _ _ h => h) (Or.inl ⟨by rfl, ?_⟩) (by assumption) ?_
      rotate_left 1
      · intro w hSw; (try dsimp only at hSw); go_simp; try with_reducible rfl
      simp only [Act.put, List.setIfInBounds_toArray, List.set_cons_zero, List.set_cons_succ]
      -- 7: ref.go:30 slot 24 := Op.call { value (Operand.func 87), args := #[t17, t23], argTypes := #[31, 41] }
      refine wpAnyH_ready (rs := [7]) (by kernel_rfl) (by simp) ?_
      refine AllReadyH.cons (o := ⟨some 24, _, _, _, _, _⟩) rfl (fun K hK => ?_) AllReadyH.nil
      go_simp
      refine (above_calls _ A2 n2 c2 cur hn2 (by have := HL2.out; omega) (RK.C.below hCc hHeld.2.2)).mono ?_
      rintro e wq ⟨A3, c3, rfl, hO3, hbq⟩
      try go_wp2_with fail
      refine hK.out _ _ ⟨range_below hbq hHeld.1, cell_below hbq hHeld.2.1, below_then hHeld.2.2 hHeld.2.2.size hbq⟩ (fun hHeld' => ?_)
      clear hHeld
      have hHeld := hHeld'
      clear hHeld'
      clear hbq
      clear hK K
      try (simp only [Act.put, List.setIfInBounds_toArray, List.set_cons_zero, List.set_cons_succ])
      -- 8: ref.go:30 slot 6 := Op.assign t24
      refine wpAnyH_take (i := 8) (oi := ⟨some 6, _, _, _, _, _⟩) (v := ?_) rfl (by kernel_rfl) (by kernel_rfl) (by kernel_rfl) (fun _ _ _ h => h) (Or.inl ⟨by rfl, ?_⟩) (by assumption) ?_
      rotate_left 1
      · intro w hSw; (try dsimp only at hSw); go_simp; try with_reducible rfl
      simp only [Act.put, List.setIfInBounds_toArray, List.set_cons_zero, List.set_cons_succ]
      refine wpAnyH_done (by kernel_rfl) ?_ _
      refine NoPanic.normal ?_
      clear hw1
      have hOq : rowK.Own Ks wq (w.heap.size + 1) 41 (.slice (some ⟨b, o, none⟩) m c1) m (done ++ [cur]) := RK.Own.below hO hHeld.2.2
      have hBq : Below w.heap.size w wq := below_then hB hB.size hHeld.2.2
      have gq := heap_below hHeld.2.2 g0
      have hsq := hHeld.2.2.size
      have hlo : Hid (∀ k, (Value.slice (some ⟨b, o, none⟩) m c1).ownBlock = some k → w.heap.size + 1 ≤ k ∧ k < wr.heap.size) := Lib.hid (fun k hk => hO.lt k hk)
      have hC3 : hashK.C (fun k => k < wq.heap.size + 1 ∧ some k ≠ (Value.slice (some ⟨b, o, none⟩) m c1).ownBlock ∧ S0 k) wq A3 ((n2 + 1) / 2) (upF cur) := RK.Own.C_ hO3 (fun _ h => h.elim) (fun k hk => by
        have h3 := hO3.lt k hk
        have hdr : wr.drew.heap.size = wr.heap.size := rfl
        exact ⟨by omega, fun e => by have := (hlo.out k e.symm).2; omega, hS0 k (by omega)⟩)
      have hle3 := RK.Own.le_ hO3
      have hOm : rowK.Own (fun k => k < wq.heap.size + 1 ∧ some k ≠ (Value.slice (some ⟨b, o, none⟩) m c1).ownBlock ∧ S0 k) (wq.alloc (.cells #[.slice A3 ((n2 + 1) / 2) c3] 41)) (w.heap.size + 1) 41 (.slice (some ⟨b, o, none⟩) m c1) m (done ++ [cur]) := RK.Own.alloc (RK.Own.mono_ hOq (fun k hk => by have h1 := (HK.out k hk).1; exact ⟨by omega, (HK.out k hk).2⟩)) _
      have hsrc : rowK.C (fun k => k < wq.heap.size + 1 ∧ some k ≠ (Value.slice (some ⟨b, o, none⟩) m c1).ownBlock ∧ S0 k) (wq.alloc (.cells #[.slice A3 ((n2 + 1) / 2) c3] 41)) (some ⟨wq.heap.size, 0, none⟩) 1 [upF cur] :=
        rowK_one (heap_alloc_new _ _) ⟨by omega, fun e => by have := (hlo.out _ e.symm).2; omega, hS0 _ (by omega)⟩ hle3.1 hle3.2 (RK.C.below hC3 ((Below.refl _ _).alloc (Nat.le_refl _) _))
      have gqa := blk_alloc gq (.cells #[.slice A3 ((n2 + 1) / 2) c3] 41)
      have hBqa : Below w.heap.size w (wq.alloc (.cells #[.slice A3 ((n2 + 1) / 2) c3] 41)) := hBq.alloc hBq.size _
      have HRu : Hid (rowsF ids = done ++ [cur] ++ rowsF (upF cur)) := Lib.hid (by rw [HR.out, rowsF_up cur (by rw [HL2.out]; exact hlt), List.append_assoc]; rfl)
      clear hHeld hO hB g0 rt hc0 hO3 hC3 hle3 hOq hBq gq HR HK
      go_wp2_with (first | (refine RK.wpList_appK rowK _ rfl (.tmp 25) (.tmp 27) 137 rfl (fun k => k < wq.heap.size + 1 ∧ some k ≠ (Value.slice (some ⟨b, o, none⟩) m c1).ownBlock ∧ S0 k) (w.heap.size + 1) 41 _ 24 Tryd.underlying137 zinfo_row rfl (by decide) (.slice (some ⟨b, o, none⟩) m c1) m (done ++ [cur]) rfl hOm (fun k hk => hk.2.1) (some ⟨wq.heap.size, 0, none⟩) 1 1 [upF cur] rfl (fun k => k < wq.heap.size + 1 ∧ some k ≠ (Value.slice (some ⟨b, o, none⟩) m c1).ownBlock ∧ S0 k) hsrc (fun _ _ h => h) (m + 1) (done ++ [cur] ++ [upF cur]) rfl rfl (by unfold maxLen; omega) (by omega) (by simp; omega) ?_; intro A4 c4 w4 hO4 hg4 hat4))
      have hB4 : Below w.heap.size w w4 := hBqa.grown hg4 (by simp; omega) (fun k hk => by have := (hlo.out k hk).1; omega)
      have g04 := heap_grown hg4 gqa (fun e => by have := (hlo.out _ e.symm).1; omega)
      have hs4 := hg4.size
      simp only [World.size_alloc] at hs4 hat4
      have HK4 : Hid (∀ k, k < wq.heap.size + 1 ∧ some k ≠ (Value.slice (some ⟨b, o, none⟩) m c1).ownBlock ∧ S0 k → k < w4.heap.size ∧ some k ≠ (Value.slice A4 (m + 1) c4).ownBlock ∧ S0 k) := Lib.hid (fun k hk => ⟨by omega, (fun e => by
        rcases hat4 with h | h
        · exact hk.2.1 (e.trans h)
        · rw [h] at e; injection e with e; omega), hk.2.2⟩)
      clear hg4 hat4 hOm hsrc gqa hBqa
      go_roundw
      case rel => exact ⟨done ++ [cur], upF cur, _, A4, m + 1, c4, HRu, by rw [List.length_append, HMD.out]; rfl, by rw [upF_length]; have := HL2.out; omega, rfl, hO4, HK4, hB4, by omega, g04⟩
      case measure => show n + 2 - (m + 1) < n + 2 - m; omega
    · have hlt' : ¬ (1 : Int) < (n2 : Int) := by omega
      have hfin : rowsF ids = done ++ [cur] := by rw [HR.out, rowsF_end cur (by have := HL2.out; omega)]
      have hCf : rowK.C S0 wr (some ⟨b, o, none⟩) m (rowsF ids) := by
        rw [hfin]
        exact RK.Own.C_ hO (fun k hk => (HK.out k hk).2.2) (fun k hk => hS0 k (by have := (hO.lt k hk).1; omega))
      clear HR hfin hO HK g0
      go_wp2
      go_ret
      exact ⟨_, m, c1, rfl, hCf, hB⟩
end Go.Proofs.YtjlkakggmfmfiaaDoor
