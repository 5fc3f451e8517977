/- The reference's Decode. -/
import Derived.Test.YtjlkakggmfmfiaaRefDL
import Derived.Test.YtjlkakggmfmfiaaRefJoin
import Derived.Test.YtjlkakggmfmfiaaDecFin
set_option maxRecDepth 100000
set_option linter.unusedVariables false
namespace Go.Proofs.Ytjlkakggmfmfiaa
open Go Go.RowKit
theorem rd_drop0 (L : List Int) (a i : Nat) : rd (L.drop a) i = rd L (a + i) := by simp [rd, List.getD_eq_getElem?_getD]
theorem wtaken (bs : List Int) (n m : Nat) (w : World) (A : Option Addr) (hr : Rd w A n (nums .u8 bs)) (hl : bs.length = n) (hm : min n 65536 = m) : Rd w A m (nums .u8 (bs.take 65536)) := by
  have := hr.take_ m (by omega)
  have e : (nums .u8 bs).take m = nums .u8 (bs.take 65536) := by
    rw [nums_take]
    congr 1
    rw [← hm, ← hl]
    exact (List.take_eq_take_iff.2 (by omega))
  rwa [e] at this
set_option maxHeartbeats 16000000 in
theorem rdec_calls (w : World) (AZ : Option Addr) (n c : Nat) (bs : List Int) (hnc : n ≤ c) (hcm : c ≤ maxLen) (hr : Rd w AZ n (nums .u8 bs)) (hbs : Bytes bs) :
    Calls Try.prog 20 #[.slice AZ n c] w (DecPost w bs) := by
  have hU := Try.underlying82
  have hncm : n ≤ maxLen := Nat.le_trans hnc hcm
  have hcm' := hcm
  unfold maxLen at hcm'
  have hl : bs.length = n := by have := hr.1; rwa [nums_length] at this
  obtain ⟨m, hm⟩ : ∃ m, min n 65536 = m := ⟨_, rfl⟩
  have hbT : Bytes (bs.take 65536) := hbs.take _
  have hrT := wtaken bs n m w _ hr hl hm
  have hlT : (bs.take 65536).length = m := by have := hrT.1; rwa [nums_length] at this
  have hm6 : m ≤ 1000000 := by omega
  have hmc : m ≤ c := by omega
  obtain ⟨L, hL⟩ : ∃ L, bs.take 65536 = L := ⟨_, rfl⟩
  rw [hL] at hbT hrT hlT
  have HLL := Lib.hid hL
  clear hL
  have HM := Lib.hid hm
  have HL := Lib.hid hl
  have HLT := Lib.hid hlT
  clear hm hl hlT hr
  go_enter Try.func20, Try.ntmps20
  go_upto_if 22 with fail
  have hbz : Below w.heap.size w (w.alloc (.cells #[.int .i32 0, .slice none 0 0, .slice none 0 0, .int .u32 0] 46)) := (Below.refl _ _).alloc (Nat.le_refl _) _
  have hz0 := heap_alloc_new w (.cells #[.int .i32 0, .slice none 0 0, .slice none 0 0, .int .u32 0] 46)
  have hzs : (w.alloc (.cells #[.int .i32 0, .slice none 0 0, .slice none 0 0, .int .u32 0] 46)).heap.size = w.heap.size + 1 := by simp
  obtain ⟨wz, hwz⟩ : ∃ wz, w.alloc (.cells #[.int .i32 0, .slice none 0 0, .slice none 0 0, .int .u32 0] 46) = wz := ⟨_, rfl⟩
  rw [hwz] at hbz hz0 hzs ⊢
  clear hwz
  have hrW := hrT
  have hrT := hrW.below hbz
  have q2 : Below wz.heap.size wz (wz.alloc (.cells (plL AZ n c 0 0).toArray 82)) := (Below.refl _ _).alloc (Nat.le_refl _) _
  have q0 := heap_below q2 hz0
  have q1 := heap_alloc_new wz (.cells (plL AZ n c 0 0).toArray 82)
  rw [hzs] at q1
  have q3 : (wz.alloc (.cells (plL AZ n c 0 0).toArray 82)).heap.size = w.heap.size + 2 := by simp [hzs]
  refine wp_gen (q := fun wi => wi.heap[w.heap.size]? = some (.cells (tCells 0 (.slice none 0 0) (.slice none 0 0) 0) 46) ∧ wi.heap[w.heap.size + 1]? = some (.cells (plL AZ n c 0 0).toArray 82) ∧ Below wz.heap.size wz wi ∧ wi.heap.size = w.heap.size + 2) ⟨q0, q1, q2, q3⟩ (fun wi hw => ?_)
  clear q0 q1 q2 q3
  obtain ⟨hz, gP, hb, hs⟩ := hw
  obtain ⟨r5, hr5⟩ : ∃ r, w.heap.size + 1 = r := ⟨_, rfl⟩
  rw [hr5] at gP ⊢
  have h5' : w.heap.size < r5 := by omega
  have h5 : wz.heap.size ≤ r5 := by omega
  have HZS := Lib.hid hzs
  clear hzs
  have HR5 := Lib.hid hr5
  clear hr5
  go_cut [3] from 23 to 25 (fun v3 wd => v3 = .int .i64 0 ∧ wd.heap[w.heap.size]? = some (.cells (tCells 0 (.slice none 0 0) (.slice none 0 0) 0) 46) ∧ wd.heap[r5]? = some (.cells (plL AZ m c 0 0).toArray 82) ∧ Below wz.heap.size wz wd ∧ wd.heap.size = w.heap.size + 2)
  case first =>
    by_cases hbig : 65536 < n
    · have hbi : (65536 : Int) < (n : Int) := by omega
      have hm2 : m = 65536 := by have := HM.out; omega
      have k1 := fun W => cut_head AZ n c 65536 (by omega) W
      have c0 := blk_cell gP (i := 0) (v := .slice AZ n c) rfl
      have f0 := blk_frozen gP 0
      have ht := turned_setCell wi r5 0 (.slice AZ m c)
      have s1 := ht.keep hz (by omega)
      have s2 := blk_set gP 0 (.slice AZ m c)
      have s3 := ht.below hb h5
      have s4 : (wi.setCell ⟨r5, 0, none⟩ (.slice AZ m c)).heap.size = w.heap.size + 2 := by rw [ht.size]; exact hs
      subst hm2
      clear hz gP hb hs ht
      go_wp2
      go_meet
      case rel => exact ⟨rfl, s1, s2, s3, s4⟩
    · have hbi : ¬ (65536 : Int) < (n : Int) := by omega
      have hm2 : n = m := by have := HM.out; omega
      rw [hm2] at gP
      clear hm2
      go_wp2
      go_meet
      case rel => exact ⟨rfl, hz, gP, hb, hs⟩
  case rest =>
    clear hz gP hb hs
    obtain ⟨rfl, hz, gP, hb, hs⟩ := hcut
    go_upto_region 5 with fail
    have q4 := heap_alloc_new wc (.cells (tCells 0 (.slice none 0 0) (.slice none 0 0) 0) 46)
    have hba : Below wc.heap.size wc (wc.alloc (.cells (tCells 0 (.slice none 0 0) (.slice none 0 0) 0) 46)) := (Below.refl _ _).alloc (Nat.le_refl _) _
    have q5 := heap_below hba hz
    have q6 := heap_below hba gP
    have q7 := below_then hb hb.size hba
    have q8 : w.heap.size + 3 ≤ (wc.alloc (.cells (tCells 0 (.slice none 0 0) (.slice none 0 0) 0) 46)).heap.size := by simp; omega
    rw [hs] at q4
    obtain ⟨g6, hg6⟩ : ∃ r, w.heap.size + 2 = r := ⟨_, rfl⟩
    rw [hg6] at q4 ⊢
    have h56 : r5 < g6 := by have := HR5.out; omega
    obtain ⟨base, hbase⟩ : ∃ r, w.heap.size + 3 = r := ⟨_, rfl⟩
    rw [hbase] at q8
    have h6b : g6 < base := by omega
    have HBASE := Lib.hid hbase
    refine wp_gen (q := fun wi => wi.heap[w.heap.size]? = some (.cells (tCells 0 (.slice none 0 0) (.slice none 0 0) 0) 46) ∧ wi.heap[r5]? = some (.cells (plL AZ m c 0 0).toArray 82) ∧ wi.heap[g6]? = some (.cells (tCells 0 (.slice none 0 0) (.slice none 0 0) 0) 46) ∧ Below wz.heap.size wz wi ∧ base ≤ wi.heap.size) ⟨q5, q6, q4, q7, q8⟩ (fun wr hw => ?_)
    clear q4 q5 q6 q7 q8 hba hz gP hb hs hbase hg6
    obtain ⟨hz, gP, gT, hb, hsz⟩ := hw
    have hF0 := World.grownBy.refl wr (some r5)
    have hSim0 : Sim L 0 ⟨L, 0⟩ := ⟨Nat.zero_le _, fun _ => rfl⟩
    have hv := le4_takeB (p := ⟨L, 0⟩) hbT
    obtain ⟨xv, hxv⟩ : ∃ x, ofLE ((⟨L, 0⟩ : PSt).takeB 4) = x := ⟨_, rfl⟩
    rw [hxv] at hv
    have hwv : IntKind.u32.wrap xv = xv := by rw [IntKind.wrap_u32]; omega
    have HXV := Lib.hid hxv
    clear hxv hv
    go_wp2_with (first | ((with_reducible refine wpList_at 28 ?_); refine wpList_load_row rfl 82 (.tmp 5) rfl r5 rfl 82 _ _ _ gP hU rfl (info_plA _ _ _ _ _) ?_))
    refine (number_calls _ AZ m c L hm6 (hrT.below hb) hbT 0 ⟨L, 0⟩ hSim0 4 (by decide) (by decide)).mono ?_
    rintro e v1 ⟨a1, rfl, hS1, hbn1⟩
    have gQ1 := heap_below hbn1 gP
    have hBQ1 := below_then hb hb.size hbn1
    have hFQ1 := grown_trans hF0 (grown_of_below hbn1 (some r5))
    have gTq1 := heap_below hbn1 gT
    have zrq1 := heap_below hbn1 hz
    have hzq1 := Nat.le_trans hsz hbn1.size
    clear gP hb hF0 hsz gT hz hbn1
    rw [HXV.out]
    go_upto_region 6 with (first | ((with_reducible refine wpList_atS 5 ?_); refine wpList_store_any rfl 82 (.tmp 5) (.tmp 31) rfl r5 (plL AZ m c a1 ((⟨L, 0⟩ : PSt).take 4).e).toArray rfl rfl 82 _ gQ1 (info_plA _ _ _ _ _) rfl (pl_all _ _ _ _ _) ?_; intro y2 gP2 htP2))
    have hBP2 := htP2.below hBQ1 h5
    have hFP2 := grown_trans hFQ1 htP2.grown
    have gTp2 := htP2.keep gTq1 (by omega)
    have zrp2 := htP2.keep zrq1 (by omega)
    have hzp2 : base ≤ y2.heap.size := by rw [htP2.size]; exact hzq1
    clear gQ1 hBQ1 hFQ1 hzq1 gTq1 zrq1 htP2
    have cv : y2.cell? ⟨g6, 0, none⟩ = some (.int .i32 0) := blk_cell gTp2 rfl
    have fv := blk_frozen gTp2 0
    go_upto_region 7 with fail
    obtain ⟨ver, hver⟩ : ∃ ver, wrap32 xv = ver := ⟨_, rfl⟩
    have HVER : Hid (IntKind.i32.wrap (ofLE ((⟨bs.take 65536, 0⟩ : PSt).takeB 4)) = ver) := Lib.hid (by rw [HLL.out, HXV.out, ← hver]; exact IntWalk.i32_left _)
    rw [hver]
    obtain ⟨p1, hp1⟩ : ∃ p1, (⟨L, 0⟩ : PSt).take 4 = p1 := ⟨_, rfl⟩
    have HWd : Hid (decW bs = decide (p1.e = 0 ∧ 2 ≤ p1.bs.length ∧ rd p1.bs 0 = 0 ∧ rd p1.bs 1 = 1)) := Lib.hid (by unfold decW; rw [HLL.out, hp1])
    have HP2 : Hid (decP2 bs = if decW bs then p1.take 2 else p1) := Lib.hid (by unfold decP2; rw [HLL.out, hp1])
    have hpb1 : Bytes p1.bs := by rw [← hp1]; exact PSt.take_bytes hbT 4
    have hSp : Sim L a1 p1 := by rw [← hp1]; exact hS1
    have hTs := turned_setCell y2 g6 0 (.int .i32 ver)
    have q1 := hTs.keep gP2 (by omega)
    rw [hp1] at q1
    have q2 := blk_set gTp2 0 (.int .i32 ver)
    have q3 := hTs.keep zrp2 (by omega)
    have q4 := hTs.below hBP2 (by omega)
    have q5 : base ≤ (y2.setCell ⟨g6, 0, none⟩ (.int .i32 ver)).heap.size := by rw [hTs.size]; exact hzp2
    clear cv fv hTs hwv gP2 gTp2 zrp2 hBP2 hFP2 hzp2 hS1 hp1 hver hSim0
    refine wp_gen (q := fun wi => wi.heap[w.heap.size]? = some (.cells (tCells 0 (.slice none 0 0) (.slice none 0 0) 0) 46) ∧ wi.heap[r5]? = some (.cells (plL AZ m c a1 p1.e).toArray 82) ∧ wi.heap[g6]? = some (.cells (tCells ver (.slice none 0 0) (.slice none 0 0) 0) 46) ∧ Below wz.heap.size wz wi ∧ base ≤ wi.heap.size) ⟨q3, q1, q2, q4, q5⟩ (fun w2 hw => ?_)
    clear q1 q2 q3 q4 q5
    obtain ⟨hz2, gP2, gT2, hb2, hs2⟩ := hw
    go_cut [8] from 36 to 66 (fun v8 wd => v8 = .bool (decW bs) ∧ wd = w2)
    case first =>
      have e0 := blk_cell gP2 (i := 0) (v := .slice AZ m c) rfl
      have e1 := blk_cell gP2 (i := 1) (v := .int .i64 a1) rfl
      have e2 := blk_cell gP2 (i := 2) (v := .int .i64 p1.e) rfl
      have hr2 := hrT.below hb2
      have hle := hSp.le
      rw [HLT.out] at hle
      clear hz2 gP2 gT2 hb2
      by_cases he : p1.e = 0
      · have he' : (p1.e == 0) = true := by rw [he]; rfl
        have hrest := hSp.rest he
        have hlen : p1.bs.length = m - a1 := by rw [hrest, List.length_drop, HLT.out]
        by_cases h2 : a1 + 2 ≤ m
        · have h2' : ((a1 : Int) + 2 ≤ (m : Int)) := by omega
          obtain ⟨b1, o1, hA1, hc⟩ := hr2.2 (by omega)
          subst hA1
          have x0 := nums_get .u8 L a1 (by rw [HLT.out]; omega)
          have x1 := nums_get .u8 L (a1 + 1) (by rw [HLT.out]; omega)
          have y0 := hc a1 _ x0
          have y1 := hc (a1 + 1) _ x1
          have z0 : (a1 : Int) < (m : Int) := by omega
          have z1 : (a1 : Int) + 1 < (m : Int) := by omega
          have z1' : ((a1 + 1 : Nat) : Int) < (m : Int) := by omega
          have r0 : rd p1.bs 0 = rd L a1 := by rw [hrest, rd_drop0, Nat.add_zero]
          have r1 : rd p1.bs 1 = rd L (a1 + 1) := by rw [hrest, rd_drop0]
          obtain ⟨b0, hb0⟩ : ∃ b, rd L a1 = b := ⟨_, rfl⟩
          obtain ⟨b2, hb2⟩ : ∃ b, rd L (a1 + 1) = b := ⟨_, rfl⟩
          rw [hb0] at y0 r0
          rw [hb2] at y1 r1
          have R0 := Lib.hid r0
          have R1 := Lib.hid r1
          have HLN := Lib.hid hlen
          have HRE := Lib.hid hrest
          have HE0 := Lib.hid he
          have HH2 := Lib.hid h2
          clear hc x0 x1 hr2 hb0 hb2 r0 r1 hlen hrest he h2 hSp
          by_cases h3 : b0 = 0
          · have h3' : (b0 == 0) = true := by rw [h3]; rfl
            by_cases h4 : b2 = 1
            · have h4' : (b2 == 1) = true := by rw [h4]; rfl
              have HW : Hid (decW bs = true) := Lib.hid (by rw [HWd.out]; exact decide_eq_true ⟨HE0.out, by have := HLN.out; have := HH2.out; omega, by rw [R0.out]; exact h3, by rw [R1.out]; exact h4⟩)
              clear h3 h4
              go_wp2
              go_meet
              case rel => exact ⟨by rw [HW.out], rfl⟩
            · have h4' : (b2 == 1) = false := by rw [beq_eq_false_iff_ne]; exact h4
              have HW : Hid (decW bs = false) := Lib.hid (by rw [HWd.out]; exact decide_eq_false (fun h => h4 (by rw [← R1.out]; exact h.2.2.2)))
              clear h3 h4
              go_wp2
              go_meet
              case rel => exact ⟨by rw [HW.out], rfl⟩
          · have h3' : (b0 == 0) = false := by rw [beq_eq_false_iff_ne]; exact h3
            have HW : Hid (decW bs = false) := Lib.hid (by rw [HWd.out]; exact decide_eq_false (fun h => h3 (by rw [← R0.out]; exact h.2.2.1)))
            clear h3
            go_wp2
            go_meet
            case rel => exact ⟨by rw [HW.out], rfl⟩
        · have h2' : ¬ ((a1 : Int) + 2 ≤ (m : Int)) := by omega
          have HW : Hid (decW bs = false) := Lib.hid (by rw [HWd.out]; exact decide_eq_false (fun h => h2 (by have := h.2.1; omega)))
          clear hlen hrest he h2 hSp hr2
          go_wp2
          go_meet
          case rel => exact ⟨by rw [HW.out], rfl⟩
      · have he' : (p1.e == 0) = false := by rw [beq_eq_false_iff_ne]; exact he
        have HW : Hid (decW bs = false) := Lib.hid (by rw [HWd.out]; exact decide_eq_false (fun h => he h.1))
        clear he hSp hr2
        go_wp2
        go_meet
        case rel => exact ⟨by rw [HW.out], rfl⟩
    case rest =>
      obtain ⟨rfl, rfl⟩ := hcut
      obtain ⟨fl, hfl⟩ : ∃ fl, decW bs = fl := ⟨_, rfl⟩
      rw [hfl]
      have HFL := Lib.hid hfl
      have HB0 := Lib.hid hpb1
      clear hfl hpb1
      go_upto_if 67 with fail
      go_cut [8] from 68 to 71 (fun v8 wd => v8 = .bool fl ∧ ∃ a2, Sim L a2 (decP2 bs) ∧ wd.heap[w.heap.size]? = some (.cells (tCells 0 (.slice none 0 0) (.slice none 0 0) 0) 46) ∧ wd.heap[r5]? = some (.cells (plL AZ m c a2 (decP2 bs).e).toArray 82) ∧ wd.heap[g6]? = some (.cells (tCells ver (.slice none 0 0) (.slice none 0 0) 0) 46) ∧ Below wz.heap.size wz wd ∧ base ≤ wd.heap.size)
      case first =>
        cases fl with
        | true =>
          have hd0 := HWd.out
          rw [HFL.out] at hd0
          have hdd := of_decide_eq_true hd0.symm
          clear hd0
          have hp2 : p1.take 2 = decP2 bs := by rw [HP2.out, HFL.out]; rfl
          have hrest := hSp.rest hdd.1
          have hlen : p1.bs.length = m - a1 := by rw [hrest, List.length_drop, HLT.out]
          have hle := hSp.le
          rw [HLT.out] at hle
          have hst := (hSp.take 2).1 ⟨hdd.1, by have := hdd.2.1; rw [HLT.out]; omega⟩
          rw [hp2] at hst
          have e1 := blk_cell gP2 (i := 1) (v := .int .i64 a1) rfl
          have f1 := blk_frozen gP2 1
          have ht := turned_setCell wc r5 1 (.int .i64 ((a1 + 2 : Nat) : Int))
          have s1 := ht.keep hz2 (by omega)
          have s2 := blk_set gP2 1 (.int .i64 ((a1 + 2 : Nat) : Int))
          have s2' : (wc.setCell ⟨r5, 1, none⟩ (.int .i64 ((a1 + 2 : Nat) : Int))).heap[r5]? = some (.cells (plL AZ m c (a1 + 2) (decP2 bs).e).toArray 82) := by rw [s2, hst.2.1, hdd.1]; rfl
          have s3 := ht.keep gT2 (by omega)
          have s4 := ht.below hb2 h5
          have s5 : base ≤ (wc.setCell ⟨r5, 1, none⟩ (.int .i64 ((a1 + 2 : Nat) : Int))).heap.size := by rw [ht.size]; exact hs2
          have HSM := Lib.hid hst.1
          have hex := And.intro s1 (And.intro s2' (And.intro s3 (And.intro s4 s5)))
          rw [show (((a1 + 2 : Nat) : Int)) = (a1 : Int) + 2 by omega] at hex
          have HEX := Lib.hid hex
          clear hdd hp2 hrest hst ht s1 s2 s2' s3 s4 s5 hex hz2 gP2 gT2 hb2 hs2 hSp hlen hU hcm hcm' hncm hnc hmc hrT hrW hbT hbs hz0 hbz h5' h5 h56 h6b
          have ha3 : (a1 : Int) ≤ 1000000 := by omega
          obtain ⟨a3, ha⟩ : ∃ a3 : Int, (a1 : Int) + 2 = a3 := ⟨_, rfl⟩
          have hw1 : IntKind.i64.wrap ((a1 : Int) + 2) = a3 := by rw [IntWalk.i64_in _ (by omega)]; exact ha
          have hw2 : RowKit.wrap64 ((a1 : Int) + 2) = a3 := by rw [IntWalk.wrap64_in _ (by omega)]; exact ha
          have HEX := Lib.hid (ha ▸ HEX.out)
          clear hle hm6 ha3 ha
          go_wp2
          go_meet
          case rel => exact ⟨rfl, a1 + 2, HSM.out, HEX.out⟩
        | false =>
          have hp2 : p1 = decP2 bs := by rw [HP2.out, HFL.out]; rfl
          rw [hp2] at hSp gP2
          have hex := And.intro hSp (And.intro hz2 (And.intro gP2 (And.intro gT2 (And.intro hb2 hs2))))
          have HEX := Lib.hid hex
          clear hp2 hSp hz2 gP2 gT2 hb2 hs2 hex hU hcm hcm' hncm hnc hmc hrT hrW hbT hbs hz0 hbz h5' h5 h56 h6b hm6
          go_wp2
          go_meet
          case rel => exact ⟨rfl, a1, HEX.out⟩
      case rest =>
        clear hz2 gP2 gT2 hb2 hs2 hSp
        obtain ⟨rfl, a2, hS3, hz3, gP3, gT3, hb3, hs3⟩ := hcut
        have hPB : Bytes (decP2 bs).bs := by
          rw [HP2.out]
          split
          · exact PSt.take_bytes HB0.out 2
          · exact HB0.out
        have HI : Hid (decI bs = insP ((decP2 bs).countV 1024) ((decP2 bs).count 1024)) := Lib.hid rfl
        have hV1 := PSt.countV_le (decP2 bs) 1024
        have hCB := PSt.count_bytes hPB 1024
        have hF3 := World.grownBy.refl wc (some r5)
        go_wp2_with (first | ((with_reducible refine wpList_at 73 ?_); refine wpList_load_row rfl 82 (.tmp 5) rfl r5 rfl 82 _ _ _ gP3 hU rfl (info_plA _ _ _ _ _) ?_))
        refine (count_calls07 _ AZ m c L hm6 (hrT.below hb3) hbT a2 (decP2 bs) hS3 1024 (by decide)).mono ?_
        rintro e v11 ⟨a3, rfl, hS11, hbn11⟩
        have gQ11 := heap_below hbn11 gP3
        have hBQ11 := below_then hb3 hb3.size hbn11
        have hFQ11 := grown_trans hF3 (grown_of_below hbn11 (some r5))
        have gTq11 := heap_below hbn11 gT3
        have zrq11 := heap_below hbn11 hz3
        have hzq11 := Nat.le_trans hs3 hbn11.size
        clear gP3 hb3 hF3 hs3 gT3 hz3 hbn11
        go_upto_region 11 with (first | ((with_reducible refine wpList_atS 5 ?_); refine wpList_store_any rfl 82 (.tmp 5) (.tmp 76) rfl r5 (plL AZ m c a3 ((decP2 bs).count 1024).e).toArray rfl rfl 82 _ gQ11 (info_plA _ _ _ _ _) rfl (pl_all _ _ _ _ _) ?_; intro y12 gP12 htP12))
        have hBP12 := htP12.below hBQ11 h5
        have hFP12 := grown_trans hFQ11 htP12.grown
        have gTp12 := htP12.keep gTq11 (by omega)
        have zrp12 := htP12.keep zrq11 (by omega)
        have hzp12 : base ≤ y12.heap.size := by rw [htP12.size]; exact hzq11
        clear gQ11 hBQ11 hFQ11 hzq11 gTq11 zrq11 htP12
        go_upto_block 0 with fail
        refine rd_ins wz _ AZ m c L hm6 hmc hrT hbT r5 g6 base ((decP2 bs).countV 1024) a3 ver ((decP2 bs).count 1024) hV1 h5 h56 h6b hzp12 hS11 hCB gP12 gTp12 hBP12 _ ?_
        intro y_0 y_1 y_2 y_3 y_4 y_5 y_6 y_7 y_8 y_9 y_10 y_11 y_12 y_13 y_14 y_15 y_16 y_17 y_18 y_19 y_20 y_21 y_22 y_23 y_24 y_25 y_26 y_27 y_28 y_29 y_30 y_31 y_32 y_33 y_34 y_35 y_36 y_37 y_38 y_39 y_40 y_41 y_42 y_43 y_44 y_45 y_46 y_47 y_48 y_49 y_50 y_51 y_52 y_53 y_54 y_55 y_56 A1 N1 c1 w5 a5 s5 acc he5 hx5 hb5 hf5
        obtain ⟨hS5, gP5, hO5, gT5, hB5, hs5, hNb5⟩ := hf5
        rw [← HI.out] at he5 hx5
        have hl5 := RK.Own.len hO5
        have hle5 := RK.Own.le_ hO5
        have HE5 := Lib.hid he5
        have HX5 := Lib.hid hx5
        clear he5 hx5 hV1 hCB gP12 gTp12 hBP12 hzp12 hS11 hFP12 zrp12 hPB
        have hz5 := heap_below hB5 hz0
        have hV2 := PSt.countV_le s5 1024
        have hC2 := PSt.count_bytes hb5 1024
        have hF5 := World.grownBy.refl w5 (some r5)
        go_wp2_with (first | ((with_reducible refine wpList_at 131 ?_); refine wpList_load_row rfl 82 (.tmp 5) rfl r5 rfl 82 _ _ _ gP5 hU rfl (info_plA _ _ _ _ _) ?_))
        refine (count_calls07 _ AZ m c L hm6 (hrT.below hB5) hbT a5 s5 hS5 1024 (by decide)).mono ?_
        rintro e v21 ⟨a6, rfl, hS21, hbn21⟩
        have gQ21 := heap_below hbn21 gP5
        have hBQ21 := below_then hB5 hB5.size hbn21
        have hFQ21 := grown_trans hF5 (grown_of_below hbn21 (some r5))
        have gTq21 := heap_below hbn21 gT5
        have zrq21 := heap_below hbn21 hz5
        have hzq21 := Nat.le_trans hs5 hbn21.size
        clear gP5 hB5 hF5 hs5 gT5 hz5 hbn21
        go_upto_region 27 with (first | ((with_reducible refine wpList_atS 5 ?_); refine wpList_store_any rfl 82 (.tmp 5) (.tmp 134) rfl r5 (plL AZ m c a6 (s5.count 1024).e).toArray rfl rfl 82 _ gQ21 (info_plA _ _ _ _ _) rfl (pl_all _ _ _ _ _) ?_; intro y22 gP22 htP22))
        have hBP22 := htP22.below hBQ21 h5
        have hFP22 := grown_trans hFQ21 htP22.grown
        have gTp22 := htP22.keep gTq21 (by omega)
        have zrp22 := htP22.keep zrq21 (by omega)
        have hzp22 : base ≤ y22.heap.size := by rw [htP22.size]; exact hzq21
        clear gQ21 hBQ21 hFQ21 hzq21 gTq21 zrq21 htP22
        have hO6 : InOwnR _ base (.slice A1 N1 c1) N1 acc := RK.Own.grown_ hO5 hFP22 (fun q e => by cases e; omega)
        go_upto_block 4 with fail
        refine rd_outs wz _ AZ m c L hm6 hmc hrT hbT r5 g6 _ (s5.countV 1024) a6 ver (.slice A1 N1 c1) (s5.count 1024) hV2 h5 h56 (by have := hzp22; omega) (Nat.le_refl _) hS21 hC2 gP22 gTp22 hBP22 _ ?_
        intro x_0 x_1 x_2 x_3 x_4 x_5 x_6 x_7 x_8 x_9 x_10 x_11 x_12 x_13 x_14 x_15 x_16 x_17 x_18 x_19 x_20 x_21 x_22 x_23 x_24 x_25 x_26 x_27 x_28 x_29 x_30 x_31 x_32 x_33 A2 N2 c2 w7 a7 hb7 hf7
        obtain ⟨hS7, gP7, hO7, gT7, hB7, hs7, hT7⟩ := hf7
        have hlN : N1 ≤ 1024 := by have := PSt.countV_le (decP2 bs) 1024; omega
        obtain ⟨OX, hOX⟩ : ∃ O, outsP (s5.countV 1024) (s5.count 1024) = O := ⟨_, rfl⟩
        rw [hOX] at hS7 gP7 hO7 hb7
        have HOX := Lib.hid hOX
        have hle7 := RK.Own.le_ hO7
        have hOC7 := RK.Own.C_ hO7 (fun _ h => h.elim) (fun b hb => (RK.Own.lt hO7 b hb).1)
        have hsb := hzp22
        have hC2b := hle5.2
        have hC4 := hle7.2
        have hcm5 := hle5.2
        unfold maxLen at hcm5
        have d7 := blk_cell gT7 (i := 1) (v := .slice A1 N1 c1) rfl
        have HNb := Lib.hid hNb5
        have HT7 := Lib.hid hT7
        have hbw := HBASE.out
        have hrw5 := HR5.out
        clear hOX hO7 hNb5 hV2 hC2 gP22 gTp22 hBP22 zrp22 hS21 hT7
        go_upto_if 166 with fail
        go_cut [8, 9, 15, 16, 17] from 167 to 207 (fun v8 v9 v15 v16 v17 wd => v8 = .bool fl ∧ ∃ (a9 : Nat) (xsI : List TIn) (p9 : PSt), Hid ((if fl = true then allW acc OX.2 else (acc, OX.2)) = (xsI, p9)) ∧ Hid (Bytes p9.bs) ∧ Sim L a9 p9 ∧ wd.heap[r5]? = some (.cells (plL AZ m c a9 p9.e).toArray 82) ∧ wd.heap[g6]? = some (.cells (tCells ver (.slice A1 N1 c1) (.slice A2 N2 c2) 0) 46) ∧ Below wz.heap.size wz wd ∧ inK.C (DecS w r5 g6) wd A1 N1 xsI ∧ outK.C (DecS w r5 g6) wd A2 N2 OX.1)
        case first =>
          have hIC0 : inK.C (DecS w r5 g6) w7 A1 N1 acc := two_C (InOwnR.C hO6 (fun b => base ≤ b) (fun b h => h)) (fun k hk hlt => HT7.out k hlt (by omega) (by omega)) (fun k hk => by unfold DecS; omega)
          have hOC : outK.C (DecS w r5 g6) w7 A2 N2 OX.1 := hOC7.mono (fun k hk => by unfold DecS; omega)
          cases fl with
          | false =>
            have HX := Lib.hid (And.intro hS7 (And.intro gP7 (And.intro gT7 (And.intro hB7 (And.intro hIC0 hOC)))))
            have HB7 := Lib.hid hb7
            clear hS7 gP7 gT7 hB7 hIC0 hOC hOC7 hO6 hb7
            go_wp2
            go_meet
            case rel => exact ⟨rfl, a7, acc, OX.2, Lib.hid rfl, HB7, HX.out⟩
          | true =>
            by_cases hN0 : N1 = 0
            · have hnil : acc = [] := List.eq_nil_of_length_eq_zero (by omega)
              have HX := Lib.hid (And.intro hS7 (And.intro gP7 (And.intro gT7 (And.intro hB7 (And.intro hIC0 hOC)))))
              have HB7 := Lib.hid hb7
              have HNIL := Lib.hid hnil
              subst hN0
              clear hS7 gP7 gT7 hB7 hIC0 hOC hOC7 hO6 hb7 hnil
              go_wp2
              go_loopw [170] (fun v170 wr => v170 = .int .i64 0 ∧ wr = w7) (fun v _ => 0)
              case atStart => exact ⟨rfl, rfl⟩
              case round =>
                obtain ⟨rfl, rfl⟩ := hrel
                go_wp2
                go_meet
                case rel => exact ⟨rfl, a7, acc, OX.2, Lib.hid (by rw [HNIL.out]; rfl), HB7, HX.out⟩
            · obtain ⟨gi, hA1, hgb, hglt, hnc1, _, hok1, hrow⟩ := InOwnR.row hO6 (by omega)
              subst hA1
              have hrow7 := hrow.move (HT7.out gi hglt (by omega) (by omega))
              clear hIC0
              go_upto_block 6 with fail
              refine rd_wits wz w7 AZ m c L hm6 hmc hrT hbT r5 g6 gi w7.heap.size N1 c1 a7 ver (.slice A2 N2 c2) acc OX.2 h5 h56 (by omega) (by omega) (Nat.le_refl _) hl5 hle5.1 hC2b hok1 hlN hS7 hb7 gP7 gT7 hrow7 hB7 _ ?_
              intro z_0 z_1 z_2 z_3 z_4 z_5 z_6 z_7 z_8 z_9 z_10 z_11 z_12 z_13 z_14 z_15 z_16 z_17 z_18 z_19 z_20 z_21 z_22 z_23 z_24 z_25 z_26 z_27 z_28 z_29 z_30 z_31 z_32 z_33 z_34 z_35 z_36 z_37 z_38 z_39 z_40 z_41 vs ys w8 p8 a8 hall hb8 hS8 gP8 hW8 gT8 hB8 hT8
              have hyl : ys.length = N1 := hW8.2.1
              have hIC8 : inK.C (DecS w r5 g6) w8 (some ⟨gi, 0, none⟩) N1 ys := by
                rw [← hyl]
                rw [← hl5] at hW8
                exact wit_allR hW8 (fun x hx => (hok1 x hx).idl) _ (by unfold DecS; omega) (fun b h1 h2 h3 => by unfold DecS; omega)
              have hOC8 : outK.C (DecS w r5 g6) w8 A2 N2 OX.1 := two_C hOC7 (fun k hk hlt => hT8 k hlt (by omega) (by omega)) (fun k hk => by unfold DecS; omega)
              have HX := Lib.hid (And.intro hS8 (And.intro gP8 (And.intro gT8 (And.intro hB8 (And.intro hIC8 hOC8)))))
              have HB8 := Lib.hid hb8
              have HALL := Lib.hid hall
              clear hS7 gP7 gT7 hB7 hOC hOC7 hO6 hb7 hrow hrow7 hok1 hall hb8 hS8 gP8 gT8 hB8 hIC8 hOC8 hW8 hT8 d7
              go_wp2
              go_meet
              case rel => exact ⟨rfl, a8, ys, p8, Lib.hid HALL.out, HB8, HX.out⟩
        case rest =>
          obtain ⟨rfl, a9, xsI, p9, HW, HB9, hS9, gP9, gT9, hB9, hI9, hO9⟩ := hcut
          have hUT := Try.underlying46
          rename_i Kx hKx
          refine hKx _ _ ?_
          have hz9 := heap_below hB9 hz0
          have hbw9 := below_then hbz hbz.size hB9
          have hJ := rd_join HE5.out HX5.out HOX.out HFL.out HW.out
          refine rd_tail w _ AZ n c AZ m c a9 r5 g6 bs fl ver A1 N1 c1 A2 N2 c2 p9 HM.out.symm HL.out hncm (by rw [HLL.out]; exact hbT) (by rw [HLL.out]; exact hrW) h5' h56 HB9.out (by rw [HLL.out]; exact hS9) gP9 gT9 hz9 hbw9 hbw9.size xsI OX.1 hJ.1 hJ.2 HFL.out HVER.out hI9 hO9 hle5.1 hC2b hle7.1 hC4 _ ?_
          intro t_0 t_1 t_2 t_3 t_4 t_5 t_6 t_7 t_8 t_9 t_10 t_11 t_12 t_13 t_14 t_15 t_16 t_17 t_18 t_19 t_20 t_21 t_22 t_23 t_24 t_25 t_26 t_27 t_28 t_29 t_30 t_31 t_32 t_33 t_34 t_35 t_36 t_37 t_38 t_39 t_40 t_41 t_42 t_43 t_44 t_45 t_46 t_47 t_48 t_49 t_50 nz ez cs w' q1 q2 q3 q4 q5 q6 q7
          subst q1 q2
          exact bodyPost_ret (results_cell_tmp2 rfl _ _ w.heap.size 46 cs.toArray (0, 0) _ rfl q3 hUT rfl (by rw [List.size_toArray, q4]; kernel_rfl)) rfl ⟨cs, rfl, q5, q6, q7⟩
end Go.Proofs.Ytjlkakggmfmfiaa
