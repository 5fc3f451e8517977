/- tx.Decode: what it hands back. -/
import Derived.Test.YtjlkakggmfmfiaaDecTail
set_option maxRecDepth 100000
set_option linter.unusedVariables false
namespace Go.Proofs.Ytjlkakggmfmfiaa
open Go Go.RowKit
def txZero : List Value := [.int .i32 0, .slice none 0 0, .slice none 0 0, .int .u32 0]
def DecPost (w : World) (bs : List Int) (e : Ending) (w' : World) : Prop :=
  ∃ cs, e = .returned (.tuple #[.agg cs.toArray, .int .i64 ((if decE bs = 0 then decN bs else 0 : Nat) : Int), .int .i64 (decE bs)]) ∧ (decE bs = 0 → txK.K (fun b => w.heap.size ≤ b) w' (decT bs) cs) ∧ (decE bs ≠ 0 → cs = txZero) ∧ Below w.heap.size w w'
theorem results_cell_tmp2 {P : Program} {fn : Func} {p q s : Tmp} {ty : TypeId} (h : fn.results = #[.cell p ty, .tmp q, .tmp s]) (tmps : Array Value) (w : World) (g : Nat) (t : TypeId) (cs : Array Value) (fr : Nat × Nat) (d : TypeDesc)
    (hp : tmps.getD p undef = .pointer (some ⟨g, 0, none⟩)) (hg : w.heap[g]? = some (.cells cs t fr))
    (hu : P.underlying ty = some d) (hd : (match d with | .struct _ | .array _ _ => true | _ => false) = true) (hi : (P.info? ty).map (·.size) = some cs.size) :
    (results fn tmps).run P w = .ok (.tuple #[.agg cs, tmps.getD q undef, tmps.getD s undef]) w := by
  have hp' : tmps[p]?.getD undef = .pointer (some ⟨g, 0, none⟩) := by simpa using hp
  simp [results, h, hp', asAddr, run_loadVar_row w g t ty cs fr d hg hu hd hi]
theorem wit_all {w : World} {lo r gi : Nat} {xs ys : List TIn} {vs : List Value} (h : WitSt w lo r gi xs.length xs ys vs) (hi : ∀ x ∈ xs, x.id.length = 32) (S : Nat → Prop) (hS : S gi) (hSS : ∀ b, lo ≤ b → b ≠ r → b ≠ gi → S b) : inK.C S w (some ⟨gi, 0, none⟩) ys.length ys := by
  obtain ⟨h1, h2, h3, h4, _⟩ := h
  refine h3.toK h1 hS ys h2 (fun i x y v hx hy hv => ?_) hi
  obtain ⟨cs, hK, hcs⟩ := h4 i x y v hx hy hv
  exact ⟨cs, inK.mono (fun b hb => hSS b hb.1 hb.2.1 hb.2.2) hK, hcs⟩
theorem two_C {α : Type} {d : RK α} {S S' : Nat → Prop} {w w1 : World} {A : Option Addr} {n : Nat} {xs : List α} (h : d.C S w A n xs) (hm : ∀ k, S k → k < w.heap.size → w1.heap[k]? = w.heap[k]?) (hS : ∀ k, S k → S' k) : d.C S' w1 A n xs := (h.move hm).mono hS
theorem in_wit0 {w : World} {base n c : Nat} {A : Option Addr} {xs : List TIn} (h : InOwn w base (.slice A n c) n xs) : ∀ x ∈ xs, x.wit = [] := by
  obtain ⟨_, cells, _, hc⟩ := h
  intro x hx
  obtain ⟨i, hi⟩ := List.getElem?_of_mem hx
  obtain ⟨cs, hK, _⟩ := hc i x hi
  exact hK.2.2
theorem loopP_max {α : Type} (f : PSt → α × PSt) : ∀ (n : Nat) (p : PSt), (loopP f n p).1.length ≤ n
  | 0, _ => Nat.le_refl _
  | n + 1, p => by
    rw [loopP]
    split
    · exact Nat.zero_le _
    · have := loopP_max f n (f p).2
      simp only [List.length_cons]
      omega
/-- Inputs of the call's own with no witness yet are inputs. -/
theorem InOwn.C {w : World} {base n c : Nat} {A : Option Addr} {xs : List TIn} (h : InOwn w base (.slice A n c) n xs) (S : Nat → Prop) (hS : ∀ b, base ≤ b → S b) : inK.C S w A n xs := by
  rcases Nat.eq_zero_or_pos n with h0 | h0
  · subst h0
    have := List.eq_nil_of_length_eq_zero h.1
    subst this
    exact RK.C.nil _ _ _ _
  · obtain ⟨g, rfl, hb, hlt, _, _, hok, hrow⟩ := InOwn.row h h0
    have hl := h.1
    have hw := in_wit0 h
    have := hrow.toK (S := S) (by rw [List.length_replicate, hl]) (hS g hb) xs rfl (fun i x y v hx hy hv => by
      obtain rfl : x = y := Option.some.inj (hx.symm.trans hy)
      have hxm := List.mem_of_getElem? hx
      rw [List.getElem?_replicate] at hv
      split at hv
      · obtain rfl := Option.some.inj hv
        exact ⟨_, ⟨none, 0, 0, rfl, hok x hxm, Nat.le_refl _, Nat.zero_le _, by rw [hw x hxm]; exact RK.C.nil _ _ _ _⟩, rfl⟩
      · cases hv) (fun x hx => (hok x hx).idl)
    rwa [hl] at this
set_option maxHeartbeats 8000000 in
theorem dec_calls (w : World) (D o n c : Nat) (bs : List Int) (hnc : n ≤ c) (hcm : c ≤ maxLen) (hr : Rd w (some ⟨D, o, none⟩) n (nums .u8 bs)) (hD : D < w.heap.size) (hbs : Bytes bs) :
    Calls Try.prog 18 #[.slice (some ⟨D, o, none⟩) n c] w (DecPost w bs) := by
  have hcm' := hcm
  unfold maxLen at hcm'
  have hl : bs.length = n := by have := hr.1; rwa [nums_length] at this
  have hm1 : min n 65536 ≤ n := Nat.min_le_left _ _
  obtain ⟨m, hm⟩ : ∃ m, min n 65536 = m := ⟨_, rfl⟩
  have k1 := fun W => cut_head (some ⟨D, o, none⟩) n c m (by omega) W
  have hmi : min (n : Int) 65536 = (m : Int) := by omega
  go_enter Try.func18, Try.ntmps18
  go_upto_region 3 with fail
  have HM := Lib.hid hm
  have HL := Lib.hid hl
  have p0b : Bytes (bs.take 65536) := hbs.take _
  have hr0 : Rd w (some ⟨D, o, none⟩) m (nums .u8 (bs.take 65536)) := by
    have := hr.take_ m (by omega)
    have e : (nums .u8 bs).take m = nums .u8 (bs.take 65536) := by
      rw [nums_take]
      congr 1
      rw [← hm, ← hl]
      exact (List.take_eq_take_iff.2 (by omega))
    rwa [e] at this
  have hbz : Below w.heap.size w (w.alloc (.cells #[.int .i32 0, .slice none 0 0, .slice none 0 0, .int .u32 0] 35)) := (Below.refl _ _).alloc (Nat.le_refl _) _
  have hz0 := heap_alloc_new w (.cells #[.int .i32 0, .slice none 0 0, .slice none 0 0, .int .u32 0] 35)
  have hzs : (w.alloc (.cells #[.int .i32 0, .slice none 0 0, .slice none 0 0, .int .u32 0] 35)).heap.size = w.heap.size + 1 := by simp
  obtain ⟨wz, hwz⟩ : ∃ wz, w.alloc (.cells #[.int .i32 0, .slice none 0 0, .slice none 0 0, .int .u32 0] 35) = wz := ⟨_, rfl⟩
  rw [hwz] at hbz hz0 hzs ⊢
  clear hwz
  have hba : Below wz.heap.size wz ((wz.alloc (.cells #[.slice (some ⟨D, o, none⟩) m c, .int .i64 0] 75)).alloc (.cells #[.int .i32 0, .slice none 0 0, .slice none 0 0, .int .u32 0] 35)) :=
    ((Below.refl _ _).alloc (Nat.le_refl _) _).alloc (by simp) _
  have hS0 : RSt ((wz.alloc (.cells #[.slice (some ⟨D, o, none⟩) m c, .int .i64 0] 75)).alloc (.cells #[.int .i32 0, .slice none 0 0, .slice none 0 0, .int .u32 0] 35)) (w.heap.size + 1) D ⟨bs.take 65536, 0⟩ := by
    refine ⟨_, m, c, ?_, by omega, hcm, (hr0.below hbz).below hba, p0b, (fun ad h => ⟨o, (Option.some.inj h).symm⟩), by omega⟩
    exact blk_alloc (by have := heap_alloc_new wz (.cells #[.slice (some ⟨D, o, none⟩) m c, .int .i64 0] 75); rwa [hzs] at this) _
  have hg0 : ((wz.alloc (.cells #[.slice (some ⟨D, o, none⟩) m c, .int .i64 0] 75)).alloc (.cells #[.int .i32 0, .slice none 0 0, .slice none 0 0, .int .u32 0] 35)).heap[w.heap.size + 1 + 1]? = some (.cells (tCells 0 (.slice none 0 0) (.slice none 0 0) 0) 35) := by
    have := heap_alloc_new (wz.alloc (.cells #[.slice (some ⟨D, o, none⟩) m c, .int .i64 0] 75)) (.cells #[.int .i32 0, .slice none 0 0, .slice none 0 0, .int .u32 0] 35)
    simpa [hzs] using this
  have hs0 : w.heap.size + 1 + 1 + 1 ≤ ((wz.alloc (.cells #[.slice (some ⟨D, o, none⟩) m c, .int .i64 0] 75)).alloc (.cells #[.int .i32 0, .slice none 0 0, .slice none 0 0, .int .u32 0] 35)).heap.size := by simp [hzs]
  refine wp_gen (q := fun wi => RSt wi (w.heap.size + 1) D ⟨bs.take 65536, 0⟩ ∧ wi.heap[w.heap.size + 1 + 1]? = some (.cells (tCells 0 (.slice none 0 0) (.slice none 0 0) 0) 35) ∧ Below wz.heap.size wz wi ∧ w.heap.size + 1 + 1 + 1 ≤ wi.heap.size) ⟨hS0, hg0, hba, hs0⟩ (fun wi hw => ?_)
  have HZS := Lib.hid hzs
  clear hS0 hg0 hba hs0 hr0 k1 hmi hm hl hr hm1 hzs
  obtain ⟨hS, hg, hb, hsz⟩ := hw
  have hv := le4_takeB (p := ⟨bs.take 65536, 0⟩) p0b
  have hwv : IntKind.u32.wrap (ofLE ((⟨bs.take 65536, 0⟩ : PSt).takeB 4)) = ofLE ((⟨bs.take 65536, 0⟩ : PSt).takeB 4) := by rw [IntKind.wrap_u32]; omega
  clear hv
  go_wp2_with fail
  refine (rlit_calls _ _ D _ 4 (by decide) hS _ rfl).mono ?_
  rintro e w1 ⟨rfl, hS1, hG1⟩
  have hg1 := heap_grown hG1 hg (fun e => by have := Option.some.inj e; omega)
  have hb1 := hb.grown hG1 hb.size (fun k e => by cases e; have := HZS.out; omega)
  have hs1 := hG1.size
  have cv1 := blk_cell hg1 (i := 0) (v := .int .i32 0) rfl
  have fv1 := blk_frozen hg1 0
  clear hG1 hg hb hS
  go_upto_region 4 with fail
  obtain ⟨ver, hver⟩ : ∃ ver, wrap32 (ofLE ((⟨bs.take 65536, 0⟩ : PSt).takeB 4)) = ver := ⟨_, rfl⟩
  have HVER : Hid (IntKind.i32.wrap (ofLE ((⟨bs.take 65536, 0⟩ : PSt).takeB 4)) = ver) := Lib.hid (by rw [← hver]; exact IntWalk.i32_left _)
  rw [hver]
  have hS2 := hS1.keep (w' := w1.setCell ⟨w.heap.size + 1 + 1, 0, none⟩ (.int .i32 ver)) ((turned_setCell w1 _ 0 _).block _ (by omega)) ((turned_setCell w1 _ 0 _).block _ (by omega))
  have hg2 := blk_set hg1 0 (.int .i32 ver)
  have hb2 := (turned_setCell w1 (w.heap.size + 1 + 1) 0 (.int .i32 ver)).below hb1 (by have := HZS.out; omega)
  have hs2 : w.heap.size + 1 + 1 + 1 ≤ (w1.setCell ⟨w.heap.size + 1 + 1, 0, none⟩ (.int .i32 ver)).heap.size := by rw [(turned_setCell w1 _ 0 _).size]; omega
  obtain ⟨p1, hp1⟩ : ∃ p1, (⟨bs.take 65536, 0⟩ : PSt).take 4 = p1 := ⟨_, rfl⟩
  have HWd : Hid (decW bs = decide (p1.e = 0 ∧ 2 ≤ p1.bs.length ∧ rd p1.bs 0 = 0 ∧ rd p1.bs 1 = 1)) := Lib.hid (by unfold decW; rw [hp1])
  have HP2 : Hid (decP2 bs = if decW bs then p1.take 2 else p1) := Lib.hid (by unfold decP2; rw [hp1])
  rw [hp1] at hS2
  refine wp_gen (q := fun wi => RSt wi (w.heap.size + 1) D p1 ∧ wi.heap[w.heap.size + 1 + 1]? = some (.cells (tCells ver (.slice none 0 0) (.slice none 0 0) 0) 35) ∧ Below wz.heap.size wz wi ∧ w.heap.size + 1 + 1 + 1 ≤ wi.heap.size) ⟨hS2, hg2, hb2, hs2⟩ (fun w2 hw => ?_)
  clear hS2 hg2 hb2 hs2 hp1 hver hS1 hg1 hb1 hs1 cv1 fv1 hwv hsz
  obtain ⟨hS2, hg2, hb2, hs2⟩ := hw
  go_cut [7] from 23 to 53 (fun v7 wd => v7 = .bool (decW bs) ∧ wd = w2)
  case first =>
    obtain ⟨A1, n1, c1, hgr, hn1, hc1, hr1, hby1, _, _⟩ := id hS2
    have hl1 : p1.bs.length = n1 := by have := hr1.1; rwa [nums_length] at this
    have q0 := blk_cell hgr (i := 0) (v := .slice A1 n1 c1) rfl
    have q1 := blk_cell hgr (i := 1) (v := .int .i64 p1.e) rfl
    have HL1 := Lib.hid hl1
    clear hgr hl1 hg2 hb2 hs2 hS2
    unfold maxLen at hc1
    by_cases he : p1.e = 0
    · have he' : (p1.e == 0) = true := by rw [he]; rfl
      by_cases h2 : 2 ≤ n1
      · have h2' : (2 : Int) ≤ (n1 : Int) := by omega
        obtain ⟨b1, o1, hA1, hc⟩ := hr1.2 (by omega)
        subst hA1
        have x0 := nums_get .u8 p1.bs 0 (by have := HL1.out; omega)
        have x1 := nums_get .u8 p1.bs 1 (by have := HL1.out; omega)
        have y0 := hc 0 _ x0
        have y1 := hc 1 _ x1
        rw [Nat.add_zero] at y0
        have z0 : (0 : Int) < (n1 : Int) := by omega
        have z1 : (1 : Int) < (n1 : Int) := by omega
        clear hc x0 x1 hr1
        by_cases h3 : rd p1.bs 0 = 0
        · have h3' : (rd p1.bs 0 == 0) = true := by rw [h3]; rfl
          by_cases h4 : rd p1.bs 1 = 1
          · have h4' : (rd p1.bs 1 == 1) = true := by rw [h4]; rfl
            have hw : decW bs = true := by rw [HWd.out]; exact decide_eq_true ⟨he, by have := HL1.out; omega, h3, h4⟩
            have HW := Lib.hid hw
            clear hw h3 h4 he
            go_wp2
            go_meet
            case rel => exact ⟨by rw [HW.out], rfl⟩
          · have h4' : (rd p1.bs 1 == 1) = false := by rw [beq_eq_false_iff_ne]; exact h4
            have hw : decW bs = false := by rw [HWd.out]; exact decide_eq_false (fun h => h4 h.2.2.2)
            have HW := Lib.hid hw
            clear hw h3 h4 he
            go_wp2
            go_meet
            case rel => exact ⟨by rw [HW.out], rfl⟩
        · have h3' : (rd p1.bs 0 == 0) = false := by rw [beq_eq_false_iff_ne]; exact h3
          have hw : decW bs = false := by rw [HWd.out]; exact decide_eq_false (fun h => h3 h.2.2.1)
          have HW := Lib.hid hw
          clear hw h3 he
          go_wp2
          go_meet
          case rel => exact ⟨by rw [HW.out], rfl⟩
      · have h2' : ¬ (2 : Int) ≤ (n1 : Int) := by omega
        have hw : decW bs = false := by rw [HWd.out]; exact decide_eq_false (fun h => h2 (by have := HL1.out; omega))
        have HW := Lib.hid hw
        clear hw he
        go_wp2
        go_meet
        case rel => exact ⟨by rw [HW.out], rfl⟩
    · have he' : (p1.e == 0) = false := by rw [beq_eq_false_iff_ne]; exact he
      have hw : decW bs = false := by rw [HWd.out]; exact decide_eq_false (fun h => he h.1)
      have HW := Lib.hid hw
      clear hw he
      go_wp2
      go_meet
      case rel => exact ⟨by rw [HW.out], rfl⟩
  case rest =>
    obtain ⟨rfl, rfl⟩ := hcut
    obtain ⟨fl, hfl⟩ : ∃ fl, decW bs = fl := ⟨_, rfl⟩
    rw [hfl]
    have HFL := Lib.hid hfl
    clear hfl
    go_upto_if 54 with fail
    go_cut [7] from 55 to 56 (fun v7 wd => v7 = .bool fl ∧ RSt wd (w.heap.size + 1) D (decP2 bs) ∧ wd.heap[w.heap.size + 1 + 1]? = some (.cells (tCells ver (.slice none 0 0) (.slice none 0 0) 0) 35) ∧ Below wz.heap.size wz wd ∧ w.heap.size + 1 + 1 + 1 ≤ wd.heap.size)
    case first =>
      cases fl with
      | true =>
        have hp2 : p1.take 2 = decP2 bs := by rw [HP2.out, HFL.out]; rfl
        go_wp2_with fail
        refine (take_calls _ _ D _ 2 (by decide) hS2 _ rfl).mono ?_
        rintro e w3 ⟨A3, m3, c3, rfl, hm3, hr3, hA3, hS3, hG3⟩
        rw [hp2] at hS3
        have hg3 := heap_grown hG3 hg2 (fun e => by have := Option.some.inj e; omega)
        have hb3 := hb2.grown hG3 hb2.size (fun k e => by cases e; have := HZS.out; omega)
        have hs3 := Nat.le_trans hs2 hG3.size
        clear hG3 hg2 hb2 hS2 hr3 hA3 hs2
        go_wp2
        go_meet
        case rel => exact ⟨rfl, hS3, hg3, hb3, hs3⟩
      | false =>
        have hp2 : p1 = decP2 bs := by rw [HP2.out, HFL.out]; rfl
        rw [hp2] at hS2
        go_wp2
        go_meet
        case rel => exact ⟨rfl, hS2, hg2, hb2, hs2⟩
    case rest =>
      obtain ⟨rfl, hS3, hg3, hb3, hs3⟩ := hcut
      clear hS2 hg2 hb2 hs2
      have hby2 := hS3.bytes
      have HI : Hid (decI bs = insP ((decP2 bs).countV 1024) ((decP2 bs).count 1024)) := Lib.hid rfl
      have hV1 := PSt.countV_le (decP2 bs) 1024
      go_wp2_with fail
      refine (count_calls _ _ D (decP2 bs) 1024 (by decide) hS3 _ rfl).mono ?_
      rintro e w4 ⟨rfl, hS4, hG4⟩
      have hg4 := heap_grown hG4 hg3 (fun e => by have := Option.some.inj e; omega)
      have hb4 := hb3.grown hG4 hb3.size (fun k e => by cases e; have := HZS.out; omega)
      have hs4 := Nat.le_trans hs3 hG4.size
      clear hG4 hg3 hb3 hS3 hs3
      go_upto_block 0 with fail
      refine dec_ins wz w4 (w.heap.size + 1) D (w.heap.size + 1 + 1) (w.heap.size + 1 + 1 + 1) _ ver _ hV1 (by have := HZS.out; omega) (by have := HZS.out; omega) (by omega) (by omega) (by omega) (by have := HZS.out; omega) hs4 hS4 hg4 hb4 _ ?_
      intro y0 y1 y2 y3 y4 y5 y6 y7 y8 y9 y10 y11 y12 y13 y14 y15 y16 y17 y18 y19 y20 y21 y22 y23 y24 y25 y26 y27 y28 y29 y30 y31 y32 A1 N1 c1 w5 hS5 hO5 hg5 hb5 hs5
      rw [← HI.out] at hS5 hO5
      have hl5 := RK.Own.len hO5
      have hle5 := RK.Own.le_ hO5
      have hlN : N1 ≤ 1024 := by
        rw [← hl5, HI.out, insP_eq]
        exact Nat.le_trans (loopP_max _ _ _) hV1
      clear hS4 hg4 hb4 hs4 hV1 hby2
      have HO : Hid (decO bs = outsP ((decI bs).2.countV 1024) ((decI bs).2.count 1024)) := Lib.hid rfl
      have hV2 := PSt.countV_le (decI bs).2 1024
      go_wp2_with fail
      refine (count_calls _ _ D (decI bs).2 1024 (by decide) hS5 _ rfl).mono ?_
      rintro e w6 ⟨rfl, hS6, hG6⟩
      have hg6 := heap_grown hG6 hg5 (fun e => by have := Option.some.inj e; omega)
      have hb6 := hb5.grown hG6 hb5.size (fun k e => by cases e; have := HZS.out; omega)
      have hs6 := Nat.le_trans hs5 hG6.size
      have hO6 : InOwn w6 (w.heap.size + 1 + 1 + 1) (.slice A1 N1 c1) N1 (decI bs).1 := RK.Own.grown_ hO5 hG6 (fun k e => by cases e; omega)
      clear hG6 hg5 hb5 hS5 hs5 hO5
      go_upto_block 2 with fail
      refine dec_outs wz w6 (w.heap.size + 1) D (w.heap.size + 1 + 1) w6.heap.size _ ver (.slice A1 N1 c1) _ hV2 (by have := HZS.out; omega) (by have := HZS.out; omega) (by omega) (by omega) (by omega) (by have := HZS.out; omega) (Nat.le_refl _) hS6 hg6 hb6 _ ?_
      intro v0 v1 v2 v3 v4 v5 v6 v7 v8 v9 v10 v11 v12 v13 v14 v15 v16 v17 v18 v19 v20 v21 A2 N2 c2 w7 hS7 hO7 hg7 hb7 hs7 hT7
      rw [← HO.out] at hS7 hO7
      have hle7 := RK.Own.le_ hO7
      have hOC7 : outK.C (fun b => w6.heap.size ≤ b) w7 A2 N2 (decO bs).1 := RK.Own.C_ hO7 (fun _ h => h.elim) (fun b hb => (RK.Own.lt hO7 b hb).1)
      have hlt6 := hs6
      clear hS6 hg6 hb6 hV2 hO7
      have hC2 := hle5.2
      have hC4 := hle7.2
      have hcm5 := hle5.2
      unfold maxLen at hcm5
      have hz7 : w7.heap[w.heap.size]? = some (.cells (tCells 0 (.slice none 0 0) (.slice none 0 0) 0) 35) := heap_below hb7 hz0
      have hbw7 := below_then hbz hbz.size hb7
      have d7 := blk_cell hg7 (i := 1) (v := .slice A1 N1 c1) rfl
      go_upto_if 114 with fail
      go_cut [7, 10] from 115 to 146 (fun v7 v10 wd => v7 = .bool fl ∧ RSt wd (w.heap.size + 1) D (decWs bs).2 ∧ wd.heap[w.heap.size + 1 + 1]? = some (.cells (tCells ver (.slice A1 N1 c1) (.slice A2 N2 c2) 0) 35) ∧ Below wz.heap.size wz wd ∧ inK.C (DecS w (w.heap.size + 1) (w.heap.size + 1 + 1)) wd A1 N1 (decWs bs).1 ∧ outK.C (DecS w (w.heap.size + 1) (w.heap.size + 1 + 1)) wd A2 N2 (decO bs).1)
      case first =>
        have hIC0 : inK.C (DecS w (w.heap.size + 1) (w.heap.size + 1 + 1)) w7 A1 N1 (decI bs).1 := two_C (InOwn.C hO6 (fun b => w.heap.size + 1 + 1 + 1 ≤ b) (fun b h => h)) (fun k hk hlt => hT7 k hlt (by omega) (by omega)) (fun k hk => by unfold DecS; omega)
        have hOC : outK.C (DecS w (w.heap.size + 1) (w.heap.size + 1 + 1)) w7 A2 N2 (decO bs).1 := hOC7.mono (fun k hk => by unfold DecS; omega)
        cases fl with
        | false =>
          have hD1 : decWs bs = ((decI bs).1, (decO bs).2) := by unfold decWs; rw [HFL.out]; rfl
          have HD1 := Lib.hid hD1
          clear hD1
          go_wp2
          go_meet
          case rel => exact ⟨rfl, by rw [HD1.out]; exact hS7, hg7, hb7, by rw [HD1.out]; exact hIC0, hOC⟩
        | true =>
          have HD1 : Hid (decWs bs = allW (decI bs).1 (decO bs).2) := Lib.hid (by unfold decWs; rw [HFL.out]; rfl)
          by_cases hN0 : N1 = 0
          · have hnil : (decI bs).1 = [] := List.eq_nil_of_length_eq_zero (by omega)
            have HD2 : Hid (decWs bs = ((decI bs).1, (decO bs).2)) := Lib.hid (by rw [HD1.out, hnil]; rfl)
            clear hnil
            subst hN0
            go_wp2
            go_loopw [118] (fun v118 wr => v118 = .int .i64 0 ∧ wr = w7) (fun v _ => 0)
            case atStart => exact ⟨rfl, rfl⟩
            case round =>
              obtain ⟨rfl, rfl⟩ := hrel
              go_wp2
              go_meet
              case rel => exact ⟨rfl, by rw [HD2.out]; exact hS7, hg7, hb7, by rw [HD2.out]; exact hIC0, hOC⟩
          · obtain ⟨gi, hA1, hgb, hglt, hnc1, _, hok1, hrow⟩ := InOwn.row hO6 (by omega)
            subst hA1
            have hrow7 := hrow.move (hT7 gi hglt (by omega) (by omega))
            have hs7' := hs7
            clear hIC0
            go_upto_block 4 with fail
            refine dec_wits wz w7 (w.heap.size + 1) D (w.heap.size + 1 + 1) gi w7.heap.size N1 c1 ver (.slice A2 N2 c2) (decI bs).1 (decO bs).2 (by have := HZS.out; omega) (by have := HZS.out; omega) (by have := HZS.out; omega) (by omega) (by omega) (by omega) (by omega) (by omega) (by omega) (by have := HZS.out; omega) (Nat.le_refl _) hl5 hle5.1 hC2 hok1 hlN hS7 hg7 hrow7 hb7 _ ?_
            intro z0 z1 z2 z3 z4 z5 z6 z7 z8 z9 z10 z11 z12 z13 z14 z15 z16 z17 z18 z19 z20 z21 z22 z23 z24 z25 z26 z27 z28 z29 vs ys w8 p8 hall hS8 hW8 hg8 hb8 hT8
            rw [hall] at HD1
            have hyl : ys.length = N1 := hW8.2.1
            have hIC8 : inK.C (DecS w (w.heap.size + 1) (w.heap.size + 1 + 1)) w8 (some ⟨gi, 0, none⟩) N1 ys := by
              rw [← hyl]
              rw [← hl5] at hW8
              exact wit_all hW8 (fun x hx => (hok1 x hx).idl) _ (by unfold DecS; omega) (fun b h1 h2 h3 => by unfold DecS; omega)
            have hOC8 : outK.C (DecS w (w.heap.size + 1) (w.heap.size + 1 + 1)) w8 A2 N2 (decO bs).1 := two_C hOC7 (fun k hk hlt => hT8 k hlt (by omega) (by omega)) (fun k hk => by unfold DecS; omega)
            clear hS7 hg7 hb7 hrow hrow7 hT7 hT8 hW8 hOC7 hOC hall d7 hok1 hO6
            go_wp2
            go_meet
            case rel => exact ⟨rfl, by rw [HD1.out]; exact hS8, hg8, hb8, by rw [HD1.out]; exact hIC8, hOC8⟩
      case rest =>
        obtain ⟨rfl, hS9, hg9, hb9, hI9, hO9⟩ := hcut
        rename_i Kx hKx
        refine hKx _ _ ?_
        have hz9 := heap_below hb9 hz0
        have hbw9 := below_then hbz hbz.size hb9
        clear hS7 hg7 hb7 hT7 hOC7 d7 hO6 hz7 hbw7
        refine dec_tail w _ D o n c (w.heap.size + 1) (w.heap.size + 1 + 1) bs fl ver A1 N1 c1 A2 N2 c2 (decWs bs).2 hcm hnc HL.out hbs (by omega) (by omega) (by omega) hD hS9 hg9 hz9 hbw9 rfl HFL.out HVER.out hI9 hO9 hle5.1 hC2 hle7.1 hC4 _ ?_
        intro x0 x1 x2 x3 x4 x5 x6 x7 x8 x9 x10 x11 x12 x13 x14 x15 x16 x17 x18 x19 x20 x21 x22 x23 x24 x25 x26 x27 x28 x29 x30 x31 x32 x33 x34 x35 x36 x37 x38 x39 x40 x41 x42 x43 x44 x45 x46 x47 x48 x49 x50 x51 x52 x53 x54 x55 x56 x57 x58 x59 x60 x61 x62 x63 x64 nz ez cs w' q1 q2 q3 q4 q5 q6 q7
        subst q1 q2
        exact bodyPost_ret (results_cell_tmp2 rfl _ _ w.heap.size 35 cs.toArray (0, 0) _ rfl q3 Try.underlying35 rfl (by rw [List.size_toArray, q4]; kernel_rfl)) rfl ⟨cs, rfl, q5, q6, q7⟩
theorem txK_form {S : Nat → Prop} {w : World} {t : TTx} {cs : List Value} (h : txK.K S w t cs) : ∃ A1 c1 A2 c2, cs = [.int .i32 t.ver, .slice A1 t.ins.length c1, .slice A2 t.outs.length c2, .int .u32 t.lock] ∧ t.ins.length ≤ c1 ∧ c1 ≤ maxLen ∧ t.outs.length ≤ c2 ∧ c2 ≤ maxLen ∧ inK.C S w A1 t.ins.length t.ins ∧ outK.C S w A2 t.outs.length t.outs := by
  obtain ⟨A1, n1, c1, A2, n2, c2, rfl, _, _, h1, h2, h3, h4, hI, hO⟩ := h
  obtain rfl := hI.len
  obtain rfl := hO.len
  exact ⟨A1, c1, A2, c2, rfl, h1, h2, h3, h4, hI, hO⟩
end Go.Proofs.Ytjlkakggmfmfiaa
