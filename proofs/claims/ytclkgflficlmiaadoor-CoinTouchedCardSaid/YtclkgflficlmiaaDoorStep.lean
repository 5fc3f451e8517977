/- sha.turn and sha.step: what they hand back. -/
import Derived.Test.YtclkgflficlmiaaDoorChecked
import Derived.Test.YtclkgflficlmiaaDoorShaLaw
import Derived.Test.YtclkgflficlmiaaDoorQuietTail
import Derived.WalkKit
import Derived.KernelRfl
import Derived.BigQuiet
import Derived.Deep.DeepCutAuto
set_option maxRecDepth 100000
namespace Go.Proofs.YtclkgflficlmiaaDoor
open Go Go.RowKit
set_option maxHeartbeats 400000 in
theorem turn_calls (x n : Int) (w : World) (h0 : 0 ≤ n) (h1 : n ≤ 31) :
    Calls Tryd.prog 84 #[.int .u32 x, .int .i64 n] w fun e w' => e = .returned (.int .u32 (rotr x n)) ∧ ∃ m, w' = w.drewN m := by
  go_enter Tryd.func84, Tryd.ntmps84
  go_wp2
  go_quiet (fail)
  go_wp2
  go_ret
  exact ⟨rfl, _, rfl⟩
/-- What the package's two tables hold. -/
structure Tabs (w : World) : Prop where
  adds : ∀ i, i < 64 → w.cell? ⟨2, i, none⟩ = some (.int .u32 (rd adds i))
  first : ∃ t fz, w.heap[1]? = some (.cells first8.cells t fz)
theorem Tabs.below {w w' : World} (h : Tabs w) (hb : Below w.heap.size w w') : Tabs w' :=
  ⟨fun i hi => cell_below hb (h.adds i hi), by obtain ⟨t, fz, hf⟩ := h.first; exact ⟨t, fz, heap_below hb hf⟩⟩
theorem Tabs.drewN {w : World} (h : Tabs w) (n : Nat) : Tabs (w.drewN n) := h.below (below_drewN (Below.refl _ _) n)
theorem Tabs.alloc {w : World} (h : Tabs w) (o : Obj) : Tabs (w.alloc o) := h.below ((Below.refl _ _).alloc (Nat.le_refl _) o)
def zero8 : Array Value := #[.int .u32 0, .int .u32 0, .int .u32 0, .int .u32 0, .int .u32 0, .int .u32 0, .int .u32 0, .int .u32 0]
structure StepInv (w : World) (s0 s : S8) (W : List Int) (wr : World) : Prop where
  below : Below w.heap.size w wr
  b0 : wr.heap[w.heap.size]? = some (.cells s0.cells 27)
  b1 : wr.heap[w.heap.size + 1]? = some (.cells zero8 27)
  b2 : wr.heap[w.heap.size + 1 + 1]? = some (.cells (nums .u32 W).toArray 168)
  b3 : wr.heap[w.heap.size + 1 + 1 + 1]? = some (.cells s.cells 27)
theorem StepInv.drewN {w : World} {s0 s : S8} {W : List Int} {wr : World} (h : StepInv w s0 s W wr) (n : Nat) : StepInv w s0 s W (wr.drewN n) := ⟨below_drewN h.below n, h.b0, h.b1, h.b2, h.b3⟩
theorem StepInv.setW {w : World} {s0 s : S8} {W : List Int} {wr : World} (h : StepInv w s0 s W wr) (i : Nat) (x : Int) : StepInv w s0 s (W.set i x) (wr.setCell ⟨w.heap.size + 1 + 1, i, none⟩ (.int .u32 x)) := by
  refine ⟨h.below.setCell (by simp; omega) _, blk_far h.b0 (by simp; omega) _, blk_far h.b1 (by simp) _, ?_, blk_far h.b3 (by simp) _⟩
  have := blk_set h.b2 i (.int .u32 x)
  rwa [nums_setA] at this
theorem StepInv.setS {w : World} {s0 s s' : S8} {W : List Int} {wr : World} (h : StepInv w s0 s W wr) : StepInv w s0 s' W (wr.setRow (w.heap.size + 1 + 1 + 1) s'.cells) := by
  have ht := turned_setRow wr (w.heap.size + 1 + 1 + 1) s'.cells
  exact ⟨ht.below h.below (by omega), ht.keep h.b0 (by omega), ht.keep h.b1 (by omega), ht.keep h.b2 (by omega), setRow_heap _ _ _ _ _ _ h.b3⟩
theorem S8.all (s : S8) : s.cells.all (·.oneCell') = true := by rw [S8.cells_eq]; exact nums_all _ _
/-- The state while its numbers are added one by one. -/
def AddL (s r : S8) (j : Nat) (L : List Int) : Prop := L.length = 8 ∧ ∀ i, i < 8 → rd L i = if i < j then M32 (rd s.list i + rd r.list i) else rd s.list i
theorem AddL.zero (s r : S8) : AddL s r 0 s.list := ⟨rfl, fun i hi => by rw [if_neg (by omega)]⟩
theorem AddL.at_ {s r : S8} {j : Nat} {L : List Int} (h : AddL s r j L) (hj : j < 8) : rd L j = rd s.list j := by rw [h.2 j hj, if_neg (by omega)]
theorem AddL.step {s r : S8} {j : Nat} {L : List Int} (h : AddL s r j L) (hj : j < 8) : AddL s r (j + 1) (L.set j (M32 (rd s.list j + rd r.list j))) := by
  refine ⟨by rw [List.length_set]; exact h.1, fun i hi => ?_⟩
  rcases Nat.lt_trichotomy i j with hl | rfl | hl
  · rw [rd_set_ne _ _ _ _ (by omega), h.2 i hi, if_pos hl, if_pos (by omega)]
  · rw [rd_set_same _ _ _ (by rw [h.1]; exact hj), if_pos (by omega)]
  · rw [rd_set_ne _ _ _ _ (by omega), h.2 i hi, if_neg (by omega), if_neg (by omega)]
theorem AddL.done {s r : S8} {L : List Int} (h : AddL s r 8 L) : L = (add8 s r).list := by
  refine rd_ext _ _ h.1 fun i hi => ?_
  rw [h.1] at hi
  rw [h.2 i hi, if_pos hi]
  rcases i with _ | _ | _ | _ | _ | _ | _ | _ | i <;> first | rfl | omega
theorem info_s8 (s : S8) : (Tryd.prog.info? 27).map (·.size) = some s.cells.size := by kernel_rfl
set_option maxHeartbeats 4000000 in
theorem step_calls (s : S8) (bb off n cap : Nat) (bs : List Int) (w : World) (hl : 64 ≤ n) (hn : n ≤ maxLen) (hbs : Bytes bs)
   (hc : ∀ i, i < 64 → w.cell? ⟨bb, off + i, none⟩ = some (.int .u8 (rd bs i))) (hT : Tabs w) :
    Calls Tryd.prog 73 #[.agg s.cells, .slice (some ⟨bb, off, none⟩) n cap] w fun e w' => e = .returned (.agg (stepF s bs).cells) ∧ Below w.heap.size w w' := by
  unfold S8.cells maxLen at *
  go_enter Tryd.func73, Tryd.ntmps73
  go_wp2
  go_loopw [15] (fun i wr => ∃ (k : Nat) (W : List Int), k ≤ 64 ∧ i = .int .i64 k ∧ Hid (Window bs W k) ∧ StepInv w s (stN s bs k) W wr) (fun i _ => (64 - intOf i).toNat)
  case atStart =>
    refine ⟨0, List.replicate 16 0, by omega, rfl, Lib.hid (Window.zero bs), ⟨?_, ?_, ?_, ?_, ?_⟩⟩
    · exact ((((Below.refl _ _).alloc (Nat.le_refl _) _).alloc (by simp) _).alloc (by simp; omega) _).alloc (by simp; omega) _
    · exact blk_alloc (blk_alloc (blk_alloc (heap_alloc_new _ _) _) _) _
    · have := heap_alloc_new (w.alloc (.cells s.cells 27)) (.cells zero8 27)
      simp only [World.size_alloc] at this
      exact blk_alloc (blk_alloc this _) _
    · have := heap_alloc_new ((w.alloc (.cells s.cells 27)).alloc (.cells zero8 27)) (.cells (nums .u32 (List.replicate 16 0)).toArray 168)
      simp only [World.size_alloc] at this
      exact blk_alloc this _
    · have := heap_alloc_new (((w.alloc (.cells s.cells 27)).alloc (.cells zero8 27)).alloc (.cells (nums .u32 (List.replicate 16 0)).toArray 168)) (.cells s.cells 27)
      simp only [World.size_alloc] at this
      exact this
  case round =>
    obtain ⟨k, W, hk, rfl, hwin, hI⟩ := hrel
    by_cases hlt : k < 64
    · have hb := ix_bits0 k (by omega)
      go_upto_if 21 with (fail)
      go_cut [7, 8, 15] (fun v7 v8 v15 wc => v7 = .int .i64 k ∧ v8 = .int .i64 (ix k 0 : Int) ∧ v15 = .int .i64 k ∧ StepInv w s (stN s bs k) (W.set (ix k 0) (sch bs k)) wc)
      case first =>
        have hw : wr.cell? ⟨w.heap.size + 1 + 1, ix k 0, none⟩ = some (.int .u32 (rd W (ix k 0))) := blk_num hI.b2 _ (by rw [hwin.out.1]; exact ix_lt _ _)
        have hf : wr.frozen? ⟨w.heap.size + 1 + 1, ix k 0, none⟩ = false := blk_frozen hI.b2 _
        have m0 := ix_lt' k 0
        by_cases h16 : k < 16
        · have c0 := cell_below hI.below (hc (4 * k) (by omega))
          have c1 := cell_below hI.below (hc (4 * k + 1) (by omega))
          have c2 := cell_below hI.below (hc (4 * k + 2) (by omega))
          have c3 := cell_below hI.below (hc (4 * k + 3) (by omega))
          have r0 := hbs.rd (4 * k)
          have r1 := hbs.rd (4 * k + 1)
          have r2 := hbs.rd (4 * k + 2)
          have r3 := hbs.rd (4 * k + 3)
          have hword := word_or _ _ _ _ r0 r1 r2 r3
          have hs : sch bs k = _ := sch_low bs k h16
          unfold word at hs
          rw [← hword] at hs
          have HS := Lib.hid hs
          clear hs hword hc
          have e0 : IntKind.i64.wrap (4 * (k : Int)) = 4 * k := IntWalk.i64_in _ (by omega)
          have e1 : IntKind.i64.wrap (4 * (k : Int) + 1) = 4 * k + 1 := IntWalk.i64_in _ (by omega)
          have e2 : IntKind.i64.wrap (4 * (k : Int) + 2) = 4 * k + 2 := IntWalk.i64_in _ (by omega)
          have e3 : IntKind.i64.wrap (4 * (k : Int) + 3) = 4 * k + 3 := IntWalk.i64_in _ (by omega)
          have n0 : (4 * (k : Int)).toNat = 4 * k := by omega
          have n1 : (4 * (k : Int) + 1).toNat = 4 * k + 1 := by omega
          have n2 : (4 * (k : Int) + 2).toNat = 4 * k + 2 := by omega
          have n3 : (4 * (k : Int) + 3).toNat = 4 * k + 3 := by omega
          have l0 : 4 * (k : Int) < (n : Int) := by omega
          have l1 : 4 * (k : Int) + 1 < (n : Int) := by omega
          have l2 : 4 * (k : Int) + 2 < (n : Int) := by omega
          have l3 : 4 * (k : Int) + 3 < (n : Int) := by omega
          have p0 : 0 ≤ 4 * (k : Int) := by omega
          have p1 : 0 ≤ 4 * (k : Int) + 1 := by omega
          have p2 : 0 ≤ 4 * (k : Int) + 2 := by omega
          have p3 : 0 ≤ 4 * (k : Int) + 3 := by omega
          go_wp2
          refine wp_region_quiet_tail_lit 35 (by kernel_rfl) (by kernel_rfl) ?_
          simp only [List.take_succ_cons, List.take_zero, List.drop_succ_cons, List.drop_zero]
          repeat (first | go_big_quiet_step (fail) | quiet_step (fail))
          refine wpQuiet_nil ?_
          rintro _ ⟨nq, rfl⟩
          clear e0 e1 e2 e3 n0 n1 n2 n3
          go_wp2
          go_meet
          case rel => exact ⟨rfl, rfl, rfl, by rw [HS.out]; exact (hI.drewN nq).setW _ _⟩
        · have hw1 : wr.cell? ⟨w.heap.size + 1 + 1, ix k 1, none⟩ = some (.int .u32 (rd W (ix k 1))) := blk_num hI.b2 _ (by rw [hwin.out.1]; exact ix_lt _ _)
          have hw14 : wr.cell? ⟨w.heap.size + 1 + 1, ix k 14, none⟩ = some (.int .u32 (rd W (ix k 14))) := blk_num hI.b2 _ (by rw [hwin.out.1]; exact ix_lt _ _)
          have hw9 : wr.cell? ⟨w.heap.size + 1 + 1, ix k 9, none⟩ = some (.int .u32 (rd W (ix k 9))) := blk_num hI.b2 _ (by rw [hwin.out.1]; exact ix_lt _ _)
          have hs : sch bs k = M32 (rd W (ix k 0) + (sig0 (rd W (ix k 1)) + rd W (ix k 9) + sig1 (rd W (ix k 14)))) := by
            rw [sch_high bs k (by omega), hwin.out.at_ 0 (by omega) (by omega), hwin.out.at_ 1 (by omega) (by omega), hwin.out.at_ 9 (by omega) (by omega), hwin.out.at_ 14 (by omega) (by omega)]
            rw [show k + 0 - 16 = k - 16 by omega, show k + 1 - 16 = k - 15 by omega, show k + 9 - 16 = k - 7 by omega, show k + 14 - 16 = k - 2 by omega]
          have HS := Lib.hid hs
          clear hs hc
          have e1 : IntKind.i64.wrap ((ix k 0 : Int) + 1) = (ix k 0 : Int) + 1 := ix_wrap k 1 (by decide)
          have e14 : IntKind.i64.wrap ((ix k 0 : Int) + 14) = (ix k 0 : Int) + 14 := ix_wrap k 14 (by decide)
          have e9 : IntKind.i64.wrap ((ix k 0 : Int) + 9) = (ix k 0 : Int) + 9 := ix_wrap k 9 (by decide)
          have b1 : bits .and .i64 ((ix k 0 : Int) + 1) 15 = (ix k 1 : Int) := ix_bits k 1 (by decide)
          have b14 : bits .and .i64 ((ix k 0 : Int) + 14) 15 = (ix k 14 : Int) := ix_bits k 14 (by decide)
          have b9 : bits .and .i64 ((ix k 0 : Int) + 9) 15 = (ix k 9 : Int) := ix_bits k 9 (by decide)
          have m1 := ix_lt' k 1
          have m14 := ix_lt' k 14
          have m9 := ix_lt' k 9
          go_wp2
          go_quiet (fail)
          clear e1 e14 b1 b14 hw1 hw14 m1 m14
          go_upto_region 10 with (fail)
          refine wp_region_quiet_tail_lit 27 (by kernel_rfl) (by kernel_rfl) ?_
          simp only [List.take_succ_cons, List.take_zero, List.drop_succ_cons, List.drop_zero]
          repeat (first | go_big_quiet_step ((go_at_call 84; exact quiet_add (turn_calls _ _ _ (by omega) (by omega)))) | quiet_step ((go_at_call 84; exact quiet_add (turn_calls _ _ _ (by omega) (by omega)))))
          refine wpQuiet_nil ?_
          rintro _ ⟨nr, rfl⟩
          clear e9 b9 hw9 m9
          go_wp2
          go_meet
          case rel =>
            refine ⟨rfl, rfl, rfl, ?_⟩
            have := (hI.drewN (nq + nr)).setW (ix k 0) (sch bs k)
            rw [HS.out] at this ⊢
            simp only [M32, sig0, sig1] at this ⊢
            simpa using this
      case rest =>
        obtain ⟨rfl, rfl, rfl, hI'⟩ := hcut
        have hW' := Lib.hid hwin.out.step
        have hgk := cell_below hI'.below (hT.adds k hlt)
        have hw : wc.cell? ⟨w.heap.size + 1 + 1, ix k 0, none⟩ = some (.int .u32 (sch bs k)) := by
          have := blk_num hI'.b2 (ix k 0) (by rw [List.length_set, hwin.out.1]; exact ix_lt _ _)
          rwa [rd_set_same _ _ _ (by rw [hwin.out.1]; exact ix_lt _ _)] at this
        obtain ⟨s', hs'⟩ : ∃ s', s' = stN s bs k := ⟨_, rfl⟩
        have hnext : stN s bs (k + 1) = rnd s' (rd adds k) (sch bs k) := by rw [hs']; rfl
        rw [← hs'] at hI'
        have HN := Lib.hid hnext
        clear hnext hs' hwin hI
        have h0 : wc.cell? ⟨w.heap.size + 1 + 1 + 1, 0, none⟩ = some (.int .u32 s'.a) := blk_cell hI'.b3 rfl
        have h1 : wc.cell? ⟨w.heap.size + 1 + 1 + 1, 1, none⟩ = some (.int .u32 s'.b) := blk_cell hI'.b3 rfl
        have h2 : wc.cell? ⟨w.heap.size + 1 + 1 + 1, 2, none⟩ = some (.int .u32 s'.c) := blk_cell hI'.b3 rfl
        have h3 : wc.cell? ⟨w.heap.size + 1 + 1 + 1, 3, none⟩ = some (.int .u32 s'.d) := blk_cell hI'.b3 rfl
        have h4 : wc.cell? ⟨w.heap.size + 1 + 1 + 1, 4, none⟩ = some (.int .u32 s'.e) := blk_cell hI'.b3 rfl
        have h5 : wc.cell? ⟨w.heap.size + 1 + 1 + 1, 5, none⟩ = some (.int .u32 s'.f) := blk_cell hI'.b3 rfl
        have h6 : wc.cell? ⟨w.heap.size + 1 + 1 + 1, 6, none⟩ = some (.int .u32 s'.g) := blk_cell hI'.b3 rfl
        have h7 : wc.cell? ⟨w.heap.size + 1 + 1 + 1, 7, none⟩ = some (.int .u32 s'.h) := blk_cell hI'.b3 rfl
        have m0 := ix_lt' k 0
        clear hc hb
        go_upto_region 11 with (fail)
        go_cut [11] (fun v11 wd => v11 = .int .u32 (t1F s' (rd adds k) (sch bs k)) ∧ ∃ n, wd = wc.drewN n)
        case first =>
          go_quiet ((go_at_call 84; exact Calls.quiet_of (turn_calls _ _ _ (by omega) (by omega))))
          go_wp2_with fail
          go_meet
          case rel =>
            refine ⟨?_, _, rfl⟩
            simp only [t1F, big1, chF, notF, M32]
            rfl
        case rest =>
          obtain ⟨rfl, n1, rfl⟩ := hcut
          go_upto_region 12 with (fail)
          go_cut [12] (fun v12 wd => v12 = .int .u32 (t2F s') ∧ ∃ n, wd = wc.drewN n)
          case first =>
            go_quiet ((go_at_call 84; exact quiet_add (turn_calls _ _ _ (by omega) (by omega))))
            go_wp2_with fail
            go_meet
            case rel =>
              refine ⟨?_, n1 + nq, by simp⟩
              simp only [t2F, big0, majF, M32]
          case rest =>
            obtain ⟨rfl, n2, rfl⟩ := hcut
            have hb3 : (wc.drewN n2).heap[w.heap.size + 1 + 1 + 1]? = some (.cells s'.cells 27) := hI'.b3
            go_wp2_with (first | (refine wpList_store_row rfl 27 (.tmp 6) (.tmp 178) rfl (w.heap.size + 1 + 1 + 1) (rnd s' (rd adds k) (sch bs k)).cells rfl rfl 27 _ hb3 (info_s8 _) rfl (S8.all _) ?_))
            go_roundw
            case rel =>
              refine ⟨k + 1, W.set (ix k 0) (sch bs k), by omega, by go_num, hW', ?_⟩
              rw [HN.out]
              exact (hI'.drewN n2).setS
            case measure => simp [intOf]; omega
    · obtain rfl : k = 64 := by omega
      clear hc hT hwin
      obtain ⟨r, hr⟩ : ∃ r, r = stN s bs 64 := ⟨_, rfl⟩
      have HR := Lib.hid hr
      rw [← hr] at hI
      clear hr
      go_wp2
      go_loopw [180] (fun i wl => ∃ (j : Nat) (L : List Int), j ≤ 8 ∧ i = .int .i64 j ∧ Hid (AddL s r j L) ∧ Below w.heap.size w wl ∧ wl.heap[w.heap.size]? = some (.cells (nums .u32 L).toArray 27) ∧ wl.heap[w.heap.size + 1 + 1 + 1]? = some (.cells (nums .u32 r.list).toArray 27) ∧ ∃ Z, wl.heap[w.heap.size + 1]? = some (.cells Z 27) ∧ Z.size = 8) (fun i _ => (8 - intOf i).toNat)
      case atStart =>
        exact ⟨0, s.list, by omega, rfl, Lib.hid (AddL.zero s r), hI.below, hI.b0, hI.b3, _, hI.b1, rfl⟩
      case round =>
        obtain ⟨j, L, hj, rfl, hL, hbl, g0, g3, Z, g1, hZ⟩ := hrel
        by_cases hlj : j < 8
        · have hx := blk_num g0 j (by rw [hL.out.1]; exact hlj)
          rw [hL.out.at_ hlj] at hx
          have hy := blk_num g3 j hlj
          have hf := blk_frozen g0 j
          have hL' := Lib.hid (hL.out.step hlj)
          have hm : M32 (rd s.list j + rd r.list j) = (rd s.list j + rd r.list j) % 4294967296 := rfl
          have HM := Lib.hid hm
          clear hm
          go_upto_region 18 with (fail)
          refine wp_region_quiet_tail_lit 8 (by kernel_rfl) (by kernel_rfl) ?_
          simp only [List.take_succ_cons, List.take_zero, List.drop_succ_cons, List.drop_zero]
          repeat (first | go_big_quiet_step (fail) | quiet_step (fail))
          refine wpQuiet_nil ?_
          rintro _ ⟨nq, rfl⟩
          go_wp2
          go_roundw
          case rel =>
            refine ⟨j + 1, L.set j (M32 (rd s.list j + rd r.list j)), by omega, by go_num, hL', (below_drewN hbl nq).setCell (by simp) _, ?_, blk_far (w := wr.drewN nq) g3 (by simp; omega) _, Z, blk_far (w := wr.drewN nq) g1 (by simp) _, hZ⟩
            have := blk_set (w := wr.drewN nq) g0 j (.int .u32 (M32 (rd s.list j + rd r.list j)))
            rw [nums_setA, HM.out] at this
            rw [HM.out]
            exact this
          case measure => simp [intOf]; omega
        · obtain rfl : j = 8 := by omega
          have hLe := hL.out.done
          subst hLe
          have hlist : (nums .u32 (add8 s r).list).toArray = (stepF s bs).cells := by rw [HR.out]; rfl
          rw [hlist] at g0
          go_wp2_with (first | (refine wpList_load_row rfl 27 (.tmp 2) rfl w.heap.size rfl 27 _ _ _ g0 Tryd.underlying27 rfl (info_s8 _) ?_) | (refine wpList_store_row rfl 27 (.tmp 4) (.tmp 192) rfl (w.heap.size + 1) (stepF s bs).cells rfl rfl 27 _ g1 (info_s8 _) hZ (S8.all _) ?_))
          refine bodyPost_ret (results_cell_row rfl _ _ (w.heap.size + 1) 27 (stepF s bs).cells (0, 0) _ rfl (setRow_heap _ _ _ _ _ _ g1) Tryd.underlying27 rfl (info_s8 _)) rfl ⟨rfl, (turned_setRow wr _ _).below hbl (by omega)⟩
end Go.Proofs.YtclkgflficlmiaaDoor
