/- sha.Sum: what it hands back. -/
import Derived.Test.YtclkgflficlmiaaDoorChecked
import Derived.Test.YtclkgflficlmiaaDoorStep
import Derived.Test.YtclkgflficlmiaaDoorShaLaw
import Derived.Test.YtclkgflficlmiaaDoorBase
set_option maxRecDepth 100000
namespace Go.Proofs.YtclkgflficlmiaaDoor
open Go Go.RowKit
structure SumInv (w : World) (st : S8) (wr : World) : Prop where
  below : Below w.heap.size w wr
  size : w.heap.size + 2 ≤ wr.heap.size
  b0 : wr.heap[w.heap.size]? = some (.cells (nums .u8 zeros32).toArray 24)
  b1 : wr.heap[w.heap.size + 1]? = some (.cells st.cells 27)
section
variable {w wr w' : World} {st : S8}
theorem SumInv.then_ (h : SumInv w st wr) (hb : Below wr.heap.size wr w') : SumInv w st w' :=
  ⟨below_then h.below (Nat.le_trans (by omega) h.size) hb, Nat.le_trans h.size hb.size, heap_below hb h.b0, heap_below hb h.b1⟩
theorem SumInv.alloc (h : SumInv w st wr) (o : Obj) : SumInv w st (wr.alloc o) := h.then_ ((Below.refl _ _).alloc (Nat.le_refl _) _)
theorem SumInv.drewN (h : SumInv w st wr) (n : Nat) : SumInv w st (wr.drewN n) := ⟨below_drewN h.below n, h.size, h.b0, h.b1⟩
theorem SumInv.setS {s' : S8} (h : SumInv w st wr) : SumInv w s' (wr.setRow (w.heap.size + 1) s'.cells) := by
  have ht := turned_setRow wr (w.heap.size + 1) s'.cells
  exact ⟨ht.below h.below (by omega), by rw [ht.size]; exact h.size, ht.keep h.b0 (by omega), setRow_heap _ _ _ _ _ _ h.b1⟩
theorem SumInv.turned {g : Nat} (h : SumInv w st wr) (ht : Turned wr g w') (hg : w.heap.size + 2 ≤ g) : SumInv w st w' :=
  ⟨ht.below h.below (by omega), by rw [ht.size]; exact h.size, ht.keep h.b0 (by omega), ht.keep h.b1 (by omega)⟩
end
set_option maxHeartbeats 4000000 in
theorem sum_calls (A : Option Addr) (n c : Nat) (bs : List Int) (w : World) (hn : n ≤ maxLen) (hnc : n ≤ c) (hbs : Bytes bs) (hr : Rd w A n (nums .u8 bs)) (hT : Tabs w) :
    Calls Tryd.prog 51 #[.slice A n c] w fun e w' => e = .returned (.agg (nums .u8 (sumF bs)).toArray) ∧ Below w.heap.size w w' := by
  have hl : bs.length = n := by have := hr.1; rwa [nums_length] at this
  unfold maxLen at hn
  obtain ⟨tf, fz, hfirst⟩ := hT.first
  have hpb := pad_bytes bs hbs
  go_enter Tryd.func51, Tryd.ntmps51
  go_wp2_with (first | (refine wpList_load_row rfl 27 (.global 1) rfl 1 rfl tf first8.cells fz _ ((Below.heap_alloc _ _ _ (heap_lt hfirst)).trans hfirst) Tryd.underlying27 rfl (info_s8 _) ?_) | (refine wpList_store_row rfl 27 (.tmp 3) (.tmp 12) rfl (w.heap.size + 1) first8.cells rfl rfl 27 _ (heap_alloc2_new _ _ _) (info_s8 _) rfl (S8.all _) ?_))
  have hI0 : SumInv w first8 (((w.alloc (.cells (nums .u8 zeros32).toArray 24)).alloc (.cells zero8 27)).setRow (w.heap.size + 1) first8.cells) := by
    have ha : SumInv w ⟨0, 0, 0, 0, 0, 0, 0, 0⟩ ((w.alloc (.cells (nums .u8 zeros32).toArray 24)).alloc (.cells zero8 27)) :=
      ⟨((Below.refl _ _).alloc (Nat.le_refl _) _).alloc (by simp) _, by simp, heap_alloc2_old _ _ _, heap_alloc2_new _ _ _⟩
    exact ha.setS
  clear hfirst
  go_loopw [4] (fun v wr => ∃ (k : Nat) (A' : Option Addr), 64 * k ≤ n ∧ v = .slice A' (n - 64 * k) (c - 64 * k) ∧ Rd w A' (n - 64 * k) (nums .u8 (bs.drop (64 * k))) ∧ SumInv w (runN first8 (pad bs) k) wr) (fun v _ => lenV v)
  case atStart =>
    exact ⟨0, A, by omega, rfl, hr, hI0⟩
  case round =>
    obtain ⟨k, A', hk, rfl, hr', hI⟩ := hrel
    by_cases hlt : 64 ≤ n - 64 * k
    · have hT' := hT.below hI.below
      have hq : (64 : Int) ≤ ((n - 64 * k : Nat) : Int) := by omega
      obtain ⟨st, hst⟩ : ∃ st, st = runN first8 (pad bs) k := ⟨_, rfl⟩
      have hnext : runN first8 (pad bs) (k + 1) = stepF st ((pad bs).drop (64 * k)) := by rw [hst]; rfl
      rw [← hst] at hI
      have HN := Lib.hid hnext
      clear hnext hst hI0 hr hT
      obtain ⟨b, o, hA', hc⟩ := (hr'.below hI.below).addr (by omega)
      have hcell : ∀ i, i < 64 → wr.cell? ⟨b, o + i, none⟩ = some (.int .u8 (rd ((pad bs).drop (64 * k)) i)) := by
        intro i hi
        rw [hc i (by omega), rd_drop, rd_drop, pad_low _ _ (by omega)]
      have hb1 := hI.b1
      have hstep : Calls Tryd.prog 73 #[.agg st.cells, .slice A' (n - 64 * k) (c - 64 * k)] wr fun e w' => e = .returned (.agg (stepF st ((pad bs).drop (64 * k))).cells) ∧ Below wr.heap.size wr w' := by
        rw [hA']
        exact step_calls st b o (n - 64 * k) (c - 64 * k) ((pad bs).drop (64 * k)) wr hlt (by unfold maxLen; omega) (hpb.drop _) hcell hT'
      clear hc hcell hT' hA'
      go_upto_region 3 with fail
      go_wp2_with (first | (refine wpList_load_row rfl 27 (.tmp 3) rfl (w.heap.size + 1) rfl 27 _ _ _ hb1 Tryd.underlying27 rfl (info_s8 _) ?_))
      refine hstep.mono ?_
      rintro e w1 ⟨rfl, hbw⟩
      have hI1 := hI.then_ hbw
      have hb1' := hI1.b1
      have hr1 := rd_cut w A' (n - 64 * k) (c - 64 * k) 64 _ hr' hlt (by omega)
      rw [nums_drop, List.drop_drop] at hr1
      clear hr'
      have hI2 : SumInv w (runN first8 (pad bs) (k + 1)) (w1.setRow (w.heap.size + 1) (stepF st ((pad bs).drop (64 * k))).cells) := by
        rw [HN.out]
        exact hI1.setS
      go_wp2_with (first | (refine wpList_store_row rfl 27 (.tmp 3) (.tmp 19) rfl (w.heap.size + 1) (stepF st ((pad bs).drop (64 * k))).cells rfl rfl 27 _ hb1' (info_s8 _) rfl (S8.all _) ?_))
      go_roundw
      case rel =>
        refine ⟨k + 1, if c - 64 * k = 64 then A' else Option.map (fun x => { block := x.block, off := x.off + 64 }) A', by omega, ?_, ?_, ?_⟩
        · rw [show n - 64 * (k + 1) = n - 64 * k - 64 by omega, show c - 64 * (k + 1) = c - 64 * k - 64 by omega]
        · rw [show n - 64 * (k + 1) = n - 64 * k - 64 by omega, show 64 * (k + 1) = 64 * k + 64 by omega]
          exact hr1
        · exact hI2
      case measure => simp [lenV]; omega
    · have hkq : k = n / 64 := by omega
      have hrr : n - 64 * k = n % 64 := by omega
      have hroom := tail_room n
      obtain ⟨ts, hts⟩ : ∃ ts, ts = tailSize n := ⟨_, rfl⟩
      have hwr := hI.size
      have hZ := hI.alloc (.cells (nums .u8 (List.replicate 128 0)).toArray 157)
      obtain ⟨w2, hcopy, hg5, ht2⟩ := run_copy_rd (P := Tryd.prog) (wr.alloc (.cells (nums .u8 (List.replicate 128 0)).toArray 157)) 22 22 3 5 wr.heap.size 128 128 .u8 A' (n - 64 * k) (c - 64 * k)
        (List.replicate 128 0) 157 (bs.drop (64 * k)) Tryd.underlying22 info_u8 (heap_alloc_new _ _) ((hr'.below hI.below).alloc _) (by omega) (by simp; omega)
      have hI2 : SumInv w (runN first8 (pad bs) k) w2 := hZ.turned ht2 hwr
      have htail := Tail.zero bs hbs
      rw [hl, ← hkq, ← hrr] at htail
      clear ht2 hZ hI0
      rw [hrr] at hcopy hg5 htail hlt hr' ⊢
      rw [← hts] at hroom
      obtain ⟨r, hr⟩ : ∃ r, r = n % 64 := ⟨_, rfl⟩
      rw [← hr] at hcopy hg5 hroom htail hlt hr' ⊢
      obtain ⟨E0, hE0⟩ : ∃ E0, E0 = bs.drop (64 * k) ++ (List.replicate 128 0).drop r := ⟨_, rfl⟩
      rw [← hE0] at hg5 htail
      have htsv : ts = if r < 56 then 64 else 128 := by rw [hts, hr]; rfl
      have hT2 := hT.below hI2.below
      have HT := Lib.hid htail
      obtain ⟨st, hst⟩ : ∃ st, st = runN first8 (pad bs) k := ⟨_, rfl⟩
      rw [← hst] at hI2
      have HST := Lib.hid hst
      have hEl : E0.length = 128 := by have := htail.1; rwa [List.length_set] at this
      have hc5 := blk_num hg5 r (by omega)
      have hf5 := blk_frozen hg5 r
      have HE := Lib.hid hEl
      have HV := Lib.hid htsv
      have HS := Lib.hid hts
      have HKQ := Lib.hid hkq
      have eb : IntKind.u64.wrap ((n : Int) * 8) = (bitsF n : Int) := by rw [IntKind.wrap_u64]; unfold bitsF; omega
      clear hrr hr' hkq hE0 htail hr hst hI hEl htsv hts
      go_upto_if 25 with (first | (refine wpList_copy_runI _ rfl (.tmp 22) (.tmp 23) 22 22 rfl _ _ rfl rfl hcopy ?_))
      go_cut [6] (fun v6 wc => v6 = .int .i64 ts ∧ wc = w2)
      case first =>
        by_cases h56 : r < 56
        · have h56' : ¬ (56 : Int) ≤ (r : Int) := by omega
          go_wp2
          go_meet
          case rel => exact ⟨by rw [HV.out, if_pos h56]; rfl, rfl⟩
        · have h56' : (56 : Int) ≤ (r : Int) := by omega
          go_wp2
          go_meet
          case rel => exact ⟨by rw [HV.out, if_neg h56]; rfl, rfl⟩
      case rest =>
        obtain ⟨rfl, rfl⟩ := hcut
        clear hcopy
        obtain ⟨g5, hgg⟩ : ∃ g5, g5 = wr.heap.size := ⟨_, rfl⟩
        rw [← hgg] at hg5 hwr hc5 hf5 ⊢
        clear hgg
        go_wp2
        clear eb
        obtain ⟨B, hB⟩ : ∃ B, B = bitsF n := ⟨_, rfl⟩
        rw [← hB]
        have HB := Lib.hid hB
        clear hB hT2 hlt hc5 hf5
        go_loopw [7] (fun v wq => ∃ (i : Nat) (E : List Int), i ≤ 8 ∧ v = .int .i64 i ∧ Hid (Tail bs i E) ∧ SumInv w st wq ∧ wq.heap[g5]? = some (.cells (nums .u8 E).toArray 157)) (fun i _ => (8 - intOf i).toNat)
        case atStart =>
          refine ⟨0, E0.set r 128, by omega, rfl, HT, hI2.turned (turned_setCell wc g5 r _) hwr, ?_⟩
          have := blk_set hg5 r (.int .u8 128)
          rwa [nums_setA] at this
        case round =>
          clear hI2 hg5 HT
          obtain ⟨i, E, hi, rfl, hE, hIq, hgq⟩ := hrel
          by_cases hi8 : i < 8
          · have e1 : IntKind.i64.wrap ((ts : Int) - 1) = (ts : Int) - 1 := IntWalk.i64_in _ (by omega)
            have e2 : IntKind.i64.wrap ((ts : Int) - 1 - i) = (ts : Int) - 1 - i := IntWalk.i64_in _ (by omega)
            have e3 : ((ts : Int) - 1 - i).toNat = ts - 1 - i := by omega
            have e4 : IntKind.i64.wrap (8 * (i : Int)) = 8 * i := IntWalk.i64_in _ (by omega)
            have e5 : (8 * (i : Int)).toNat = 8 * i := by omega
            have p1 : 0 ≤ (ts : Int) - 1 - i := by omega
            have p2 : (ts : Int) - 1 - i < 128 := by omega
            have hcq := blk_num hgq (ts - 1 - i) (by rw [hE.out.1]; omega)
            have hfq := blk_frozen hgq (ts - 1 - i)
            have hE' := hE.out.step hi8
            rw [hl, ← HS.out] at hE'
            have HE' := Lib.hid hE'
            clear hE'
            go_wp2
            go_roundw
            case rel =>
              have hby : (B : Int) / 2 ^ (8 * i) % 256 = byteF n i := by unfold byteF; rw [← HB.out]; simp
              refine ⟨i + 1, E.set (ts - 1 - i) (byteF n i), by omega, by go_num, HE', hIq.turned (turned_setCell wr g5 _ _) hwr, ?_⟩
              have := blk_set hgq (ts - 1 - i) (.int .u8 (byteF n i))
              rw [nums_setA] at this
              rw [hby]
              exact this
            case measure => simp [intOf]; omega
          · obtain rfl : i = 8 := by omega
            have hpad : ∀ j, j < ts → rd E j = rd (pad bs) (64 * k + j) := by
              intro j hj
              have := hE.out.done j (by rw [hl, ← HS.out]; exact hj)
              rwa [hl, ← HKQ.out] at this
            have HP := Lib.hid hpad
            have HEl := Lib.hid hE.out.1
            have HT3 := Lib.hid hT
            clear hpad hE
            rw [HST.out] at hIq
            rw [show ((8 : Nat) : Int) = 8 from rfl]
            go_wp2
            go_loopw [9] (fun v wq => ∃ (m x : Nat), x = 64 * m ∧ x ≤ ts ∧ v = .int .i64 x ∧ SumInv w (runN first8 (pad bs) (k + m)) wq ∧ wq.heap[g5]? = some (.cells (nums .u8 E).toArray 157)) (fun i _ => (128 - intOf i).toNat)
            case atStart => exact ⟨0, 0, rfl, by omega, rfl, hIq, hgq⟩
            case round =>
              clear hIq hgq
              obtain ⟨m, x, hx, hxt, rfl, hIq, hgq⟩ := hrel
              by_cases hlx : x < ts
              · have hT3 := HT3.out.below hIq.below
                obtain ⟨s3, hs3⟩ : ∃ s3, s3 = runN first8 (pad bs) (k + m) := ⟨_, rfl⟩
                have hnext : runN first8 (pad bs) (k + (m + 1)) = stepF s3 ((pad bs).drop (64 * (k + m))) := by rw [hs3]; rfl
                rw [← hs3] at hIq
                have HN := Lib.hid hnext
                clear hnext hs3
                have hb1 := hIq.b1
                have hcell : ∀ j, j < 64 → wr.cell? ⟨g5, x + j, none⟩ = some (.int .u8 (rd ((pad bs).drop (64 * (k + m))) j)) := by
                  intro j hj
                  have hts : ts = 64 ∨ ts = 128 := by have := HV.out; split at this <;> omega
                  rw [blk_num hgq (x + j) (by rw [HEl.out]; omega), HP.out _ (by omega), rd_drop]
                  congr 3
                  omega
                have hstep : ∀ (nn cc q : Nat), 64 ≤ nn → nn ≤ 128 → Calls Tryd.prog 73 #[.agg s3.cells, .slice (some ⟨g5, x, none⟩) nn cc] (wr.drewN q) fun e w' => e = .returned (.agg (stepF s3 ((pad bs).drop (64 * (k + m)))).cells) ∧ Below (wr.drewN q).heap.size (wr.drewN q) w' := fun nn cc q h1 h2 =>
                  step_calls s3 g5 x nn cc ((pad bs).drop (64 * (k + m))) (wr.drewN q) h1 (by unfold maxLen; omega) (hpb.drop _) (fun j hj => hcell j hj) (hT3.drewN q)
                have hts : ts = 64 ∨ ts = 128 := by have := HV.out; split at this <;> omega
                have hts' : x + 64 ≤ ts := by omega
                have hlx' : (x : Int) < (ts : Int) := by omega
                have hxx : (m = 0 ∧ x = 0) ∨ (m = 1 ∧ x = 64) := by omega
                clear hcell hT3 hts hx
                obtain ⟨rfl, rfl⟩ | ⟨rfl, rfl⟩ := hxx
                · skip
                  go_upto_region 17 with fail
                  refine wp_region_quiet_tail_lit 3 (by kernel_rfl) (by kernel_rfl) ?_
                  simp only [List.take_succ_cons, List.take_zero, List.drop_succ_cons, List.drop_zero]
                  repeat (first | (refine wpQuiet_load_row rfl 27 (.tmp 3) rfl (w.heap.size + 1) rfl 27 _ _ _ hb1 Tryd.underlying27 rfl (info_s8 _) ?_) | go_big_quiet_step (fail) | quiet_step (fail))
                  refine wpQuiet_nil ?_
                  rintro _ ⟨nq, rfl⟩
                  go_wp2_with fail
                  refine (hstep 128 128 nq (by omega) (by omega)).mono ?_
                  rintro e w1 ⟨rfl, hbw⟩
                  have hI1 := (hIq.drewN nq).then_ hbw
                  have hg1 := heap_below hbw (show (wr.drewN nq).heap[g5]? = _ from hgq)
                  have hb1' := hI1.b1
                  have hI2 : SumInv w (runN first8 (pad bs) (k + (0 + 1))) (w1.setRow (w.heap.size + 1) (stepF s3 ((pad bs).drop (64 * (k + 0)))).cells) := by
                    rw [HN.out]
                    exact hI1.setS
                  go_wp2_with (first | (refine wpList_store_row rfl 27 (.tmp 3) (.tmp 55) rfl (w.heap.size + 1) (stepF s3 ((pad bs).drop (64 * (k + 0)))).cells rfl rfl 27 _ hb1' (info_s8 _) rfl (S8.all _) ?_))
                  go_roundw
                  case rel => exact ⟨0 + 1, 64, by omega, by omega, by go_num, hI2, (turned_setRow w1 (w.heap.size + 1) _).keep hg1 (by omega)⟩
                  case measure => simp [intOf]
                · skip
                  go_upto_region 17 with fail
                  refine wp_region_quiet_tail_lit 3 (by kernel_rfl) (by kernel_rfl) ?_
                  simp only [List.take_succ_cons, List.take_zero, List.drop_succ_cons, List.drop_zero]
                  repeat (first | (refine wpQuiet_load_row rfl 27 (.tmp 3) rfl (w.heap.size + 1) rfl 27 _ _ _ hb1 Tryd.underlying27 rfl (info_s8 _) ?_) | go_big_quiet_step (fail) | quiet_step (fail))
                  refine wpQuiet_nil ?_
                  rintro _ ⟨nq, rfl⟩
                  go_wp2_with fail
                  refine (hstep 64 64 nq (by omega) (by omega)).mono ?_
                  rintro e w1 ⟨rfl, hbw⟩
                  have hI1 := (hIq.drewN nq).then_ hbw
                  have hg1 := heap_below hbw (show (wr.drewN nq).heap[g5]? = _ from hgq)
                  have hb1' := hI1.b1
                  have hI2 : SumInv w (runN first8 (pad bs) (k + (1 + 1))) (w1.setRow (w.heap.size + 1) (stepF s3 ((pad bs).drop (64 * (k + 1)))).cells) := by
                    rw [HN.out]
                    exact hI1.setS
                  go_wp2_with (first | (refine wpList_store_row rfl 27 (.tmp 3) (.tmp 55) rfl (w.heap.size + 1) (stepF s3 ((pad bs).drop (64 * (k + 1)))).cells rfl rfl 27 _ hb1' (info_s8 _) rfl (S8.all _) ?_))
                  go_roundw
                  case rel => exact ⟨1 + 1, 128, by omega, by omega, by go_num, hI2, (turned_setRow w1 (w.heap.size + 1) _).keep hg1 (by omega)⟩
                  case measure => simp [intOf]
              · obtain rfl : x = ts := by omega
                have hfin : k + m = blocks n := by
                  have := tail_blocks n
                  have := HS.out
                  have := HKQ.out
                  omega
                rw [hfin] at hIq
                obtain ⟨sF, hsF⟩ : ∃ sF, sF = runN first8 (pad bs) (blocks n) := ⟨_, rfl⟩
                rw [← hsF] at hIq
                have HF := Lib.hid hsF
                clear hsF hfin hgq HT3 hx
                go_wp2
                have hg10 := heap_alloc_new wr (.cells (nums .u8 zeros32).toArray 24)
                obtain ⟨g10, hgg⟩ : ∃ g10, g10 = wr.heap.size := ⟨_, rfl⟩
                have hIs := hIq.size
                rw [← hgg] at hg10 hIs ⊢
                clear hgg
                go_loopw [56] (fun v wq => ∃ (i : Nat) (L : List Int), i ≤ 32 ∧ v = .int .i64 i ∧ Hid (OutL sF i L) ∧ SumInv w sF wq ∧ wq.heap[g10]? = some (.cells (nums .u8 L).toArray 24)) (fun i _ => (32 - intOf i).toNat)
                case atStart => exact ⟨0, zeros32, by omega, rfl, Lib.hid (OutL.zero sF), hIq.alloc _, hg10⟩
                case round =>
                  clear hIq hg10
                  obtain ⟨i, L, hi, rfl, hL, hIq, hgq⟩ := hrel
                  by_cases hi32 : i < 32
                  · have hcb := blk_num (xs := sF.list) hIq.b1 (i / 4) (by show i / 4 < 8; omega)
                    have hcq := blk_num hgq i (by rw [hL.out.1]; omega)
                    have hfq := blk_frozen hgq i
                    have hL' := Lib.hid (hL.out.step hi32)
                    have hob : outB sF i = rd sF.list (i / 4) / 2 ^ (24 - 8 * (i % 4)) % 256 := rfl
                    have HO := Lib.hid hob
                    clear hob
                    go_wp2
                    go_roundw
                    case rel =>
                      refine ⟨i + 1, L.set i (outB sF i), by omega, by go_num, hL', ?_, ?_⟩
                      · exact hIq.turned (turned_setCell wr g10 _ _) hIs
                      · have := blk_set hgq i (.int .u8 (outB sF i))
                        rw [nums_setA] at this
                        rw [← HO.out]
                        exact this
                    case measure => simp [intOf]; omega
                  · obtain rfl : i = 32 := by omega
                    have hLe := hL.out.done
                    have hsum : sumF bs = outF sF := by rw [HF.out, ← hl]; rfl
                    rw [← hsum] at hLe
                    subst hLe
                    clear hL hsum
                    have hi : (Tryd.prog.info? 24).map (·.size) = some (nums .u8 (sumF bs)).toArray.size := by rw [nums_size, sumF_length]; exact info_hash
                    have hz : (nums .u8 zeros32).toArray.size = (nums .u8 (sumF bs)).toArray.size := by rw [nums_size, nums_size, sumF_length]; rfl
                    have hb0 := hIq.b0
                    go_wp2_with (first | (refine wpList_load_row rfl 24 (.tmp 10) rfl g10 rfl 24 _ _ _ hgq Tryd.underlying24 rfl hi ?_) | (refine wpList_store_row rfl 24 (.tmp 2) (.tmp 72) rfl w.heap.size (nums .u8 (sumF bs)).toArray rfl rfl 24 _ hb0 hi hz (nums_all _ _) ?_))
                    refine bodyPost_ret (results_cell_row rfl _ _ w.heap.size 24 (nums .u8 (sumF bs)).toArray (0, 0) _ rfl (setRow_heap _ _ _ _ _ _ hb0) Tryd.underlying24 rfl hi) rfl ⟨rfl, below_setRow' hIq.below (Nat.le_refl _) _⟩

end Go.Proofs.YtclkgflficlmiaaDoor
