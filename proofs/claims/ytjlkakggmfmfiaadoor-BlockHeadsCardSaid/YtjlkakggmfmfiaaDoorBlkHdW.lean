/- tailracelaw08.BlockHeads: the walk. -/
import Derived.Test.YtjlkakggmfmfiaaDoorEqHd
import Derived.Test.YtjlkakggmfmfiaaDoorHead08
import Derived.Test.YtjlkakggmfmfiaaDoorMask
set_option maxRecDepth 100000
set_option linter.unusedVariables false
namespace Go.Proofs.YtjlkakggmfmfiaaDoor
open Go Go.RowKit
def wantF (h : Hd) (k : Nat) : List Int := leF 4 (h.ver % 4294967296).toNat ++ h.prev ++ h.root ++ (List.range k).flatMap fun j => leF 4 (rd [h.time, h.bits, h.nonce] j).toNat
theorem wantF_three (h : Hd) : wantF h 3 = hbF h := by simp [wantF, hbF, rd, List.range_succ]
theorem wantF_succ (h : Hd) (k : Nat) : wantF h (k + 1) = wantF h k ++ leF 4 (rd [h.time, h.bits, h.nonce] k).toNat := by simp [wantF, List.range_succ]
theorem three_range (h : Hd) (k : h.Ok) (i : Nat) (hi : i < 3) : 0 ≤ rd [h.time, h.bits, h.nonce] i ∧ rd [h.time, h.bits, h.nonce] i ≤ 4294967295 := by
  rcases i with _ | _ | _ | i
  · exact ⟨k.t0, k.t1⟩
  · exact ⟨k.b0, k.b1⟩
  · exact ⟨k.n0, k.n1⟩
  · omega
set_option maxHeartbeats 4000000 in
theorem blockHeads_core (w : World) (hT : Tabs w) (h : Hd) (hk : h.Ok) (A : Option Addr) (n c : Nat) (ms : List Int) (hnc : n ≤ c) (hcm : c ≤ maxLen) (hC : (RK.int .u8).C (· < w.heap.size) w A n ms) (cut : Int) :
    Calls Tryd.prog 9 #[.agg h.cells.toArray, .slice A n c, .int .i64 cut] w fun e w' => e = .returned (.bool true) ∧ Below w.heap.size w w' := by
  have hr := hC.rd_int
  have hms := hC.bytes
  have hml : ms.length = n := hC.len
  have hmask := i64_mask255 cut
  obtain ⟨q, hq, hq1⟩ : ∃ q : Nat, cut % 256 % 80 = (q : Int) ∧ q < 80 := ⟨(cut % 256 % 80).toNat, by omega, by omega⟩
  have hc256 : 0 ≤ cut % 256 := by omega
  have g3 := heap_alloc_new w (.cells h.cells.toArray 53)
  have hb0 : Below w.heap.size w (w.alloc (.cells h.cells.toArray 53)) := (Below.refl _ _).alloc (Nat.le_refl _) _
  have hT0 := hT.below hb0
  have hr0 := hr.below hb0
  have hi53 := info_hd h hk
  have HML := Lib.hid hml
  have HMK := Lib.hid hmask
  have HQ := Lib.hid hq
  clear hC hr hml hmask hq
  go_enter Tryd.func9, Tryd.ntmps9
  go_wp2_with fail
  refine (head08_calls _ hT0).mono ?_
  rintro e w1 ⟨rfl, hbh⟩
  have hT1 := hT0.below hbh
  have hr1 := hr0.below hbh
  have g31 := heap_below hbh g3
  have b01 := below_then hb0 hb0.size hbh
  clear hT0 hr0 g3 hb0 hbh
  by_cases hn : 100 < n
  · have hn' : (100 : Int) < (n : Int) := by omega
    go_wp2
    go_ret
    exact ⟨rfl, b01⟩
  · have hn' : ¬ (100 : Int) < (n : Int) := by omega
    go_wp2_with (first | (refine wpList_load_row rfl 53 (.tmp 3) rfl w.heap.size rfl 53 _ _ _ g31 Tryd.underlying53 rfl hi53 ?_))
    refine (bytes_calls _ h hk).mono ?_
    rintro e w2 ⟨A7, c7, rfl, ho7, b12⟩
    have hT2 := hT1.below b12
    have hr2 := hr1.below b12
    have g32 := heap_below b12 g31
    have b02 := below_then b01 b01.size b12
    have m7 := Rd.of_own ho7
    have c0 : w2.cell? ⟨w.heap.size, 0, none⟩ = some (.int .i32 h.ver) := blk_cell g32 (by rw [List.getElem?_toArray]; exact Hd.at0 h)
    have hwr : IntKind.u32.wrap h.ver = h.ver % 4294967296 := IntKind.wrap_u32 _
    have hs1 := heap_lt g31
    have hs2 := heap_lt g32
    clear hT1 hr1 g31 b01 b12 ho7
    go_wp2_with fail
    refine (reflit_calls _ (h.ver % 4294967296).toNat 4 (by omega) (by decide) _ rfl _ (by omega)).mono ?_
    rintro e w3 ⟨A8, c8, rfl, ho8, hg8, hx8⟩
    have b23 : Below w2.heap.size w2 w3 := (Below.refl _ _).grown hg8 (Nat.le_refl _) (fun k hk => by simp [Value.ownBlock] at hk)
    have g33 := heap_below b23 g32
    have hs3 := b23.size
    have q1 : Rd w3 (some ⟨w.heap.size, 1, none⟩) 32 (nums .u8 h.prev) := by
      have := Rd.of_block g33 32 (o := 1) (by rw [List.size_toArray, Hd.length hk]; decide)
      rwa [List.toList_toArray, Hd.drop1 hk] at this
    clear c0 hwr hg8 hx8 g33
    go_upto_region 8 with (first | (refine wpList_appN rfl (.tmp 27) (.tmp 29) 22 rfl w2.heap.size 5 _ 1 Tryd.underlying22 infoU8 rfl (.slice A8 4 c8) 4 (nums .u8 (leF 4 (h.ver % 4294967296).toNat)) rfl ho8 (some ⟨w.heap.size, 1, none⟩) 32 32 (nums .u8 h.prev) rfl q1 (nums_one _ _) 36 (nums .u8 (leF 4 (h.ver % 4294967296).toNat ++ h.prev)) rfl (nums_append _ _ _).symm (by decide) (by decide) (by omega) ?_; intro A9 c9 w4 ho9 hg9 hx9))
    have b24 : Below w2.heap.size w2 w4 := b23.grown hg9 b23.size (fun k hk => own_base ho8 k hk)
    have g34 := heap_below b24 g32
    have q24 : Rd w4 (some ⟨w.heap.size, 33, none⟩) 32 (nums .u8 h.root) := by
      have := Rd.of_block g34 32 (o := 33) (by rw [List.size_toArray, Hd.length hk]; decide)
      rwa [List.toList_toArray, Hd.drop33 hk] at this
    have hs4 : w2.heap.size ≤ w4.heap.size := b24.size
    clear q1 hg9 hx9 ho8 b23 hs3 g34
    go_upto_region 9 with (first | (refine wpList_appN rfl (.tmp 31) (.tmp 33) 22 rfl w2.heap.size 5 _ 1 Tryd.underlying22 infoU8 rfl (.slice A9 36 c9) 36 (nums .u8 (leF 4 (h.ver % 4294967296).toNat ++ h.prev)) rfl ho9 (some ⟨w.heap.size, 33, none⟩) 32 32 (nums .u8 h.root) rfl q24 (nums_one _ _) 68 (nums .u8 (wantF h 0)) rfl (by rw [← nums_append]; simp [wantF]) (by decide) (by decide) hs4 ?_; intro A10 c10 w5 ho10 hg10 hx10))
    have b25 : Below w2.heap.size w2 w5 := b24.grown hg10 b24.size (fun k hk => own_base ho9 k hk)
    have g35 := heap_below b25 g32
    have t1 : w5.cell? ⟨w.heap.size, 65, none⟩ = some (.int .u32 h.time) := blk_cell g35 (by rw [List.getElem?_toArray]; exact Hd.at65 hk)
    have t2 : w5.cell? ⟨w.heap.size, 66, none⟩ = some (.int .u32 h.bits) := blk_cell g35 (by rw [List.getElem?_toArray]; exact Hd.at66 hk)
    have t3 : w5.cell? ⟨w.heap.size, 67, none⟩ = some (.int .u32 h.nonce) := blk_cell g35 (by rw [List.getElem?_toArray]; exact Hd.at67 hk)
    have hb41 : (w5.alloc (.cells #[.int .u32 h.time, .int .u32 h.bits, .int .u32 h.nonce] 27)).heap[w5.heap.size]? = some (.cells (nums .u32 [h.time, h.bits, h.nonce]).toArray 27) := heap_alloc_new _ _
    have ho11 := World.ownsRow.alloc ho10 (.cells #[.int .u32 h.time, .int .u32 h.bits, .int .u32 h.nonce] 27)
    have b26 : Below w2.heap.size w2 (w5.alloc (.cells #[.int .u32 h.time, .int .u32 h.bits, .int .u32 h.nonce] 27)) := b25.alloc b25.size _
    have hx11 : Hid (∀ q, (Value.slice A10 68 c10).ownBlock = some q → q ≠ w5.heap.size) := Lib.hid fun q hq e => by have := (ho10.lt q hq).2; omega
    have hs5 := b25.size
    clear ho9 ho10 hg10 hx10 q24 b24 hs4 g35 b25
    go_wp2
    go_loopw [8, 43] (fun v8 v43 wr => ∃ (k : Nat) (A1 : Option Addr) (c1 : Nat), k ≤ 3 ∧ v43 = .int .i64 k ∧ v8 = .slice A1 (68 + 4 * k) c1 ∧ wr.ownsRow w2.heap.size 5 1 (.slice A1 (68 + 4 * k) c1) (68 + 4 * k) (nums .u8 (wantF h k)) ∧ Hid (∀ q, (Value.slice A1 (68 + 4 * k) c1).ownBlock = some q → q ≠ w5.heap.size) ∧ wr.heap[w5.heap.size]? = some (.cells (nums .u32 [h.time, h.bits, h.nonce]).toArray 27) ∧ Below w2.heap.size w2 wr) (fun _ v _ => 3 - (intOf v).toNat)
    case atStart => exact ⟨0, A10, c10, by omega, rfl, rfl, ho11, hx11, hb41, b26⟩
    case round =>
      clear ho11 hx11 hb41 b26 t1 t2 t3
      obtain ⟨k, A1, c1, hk3, rfl, rfl, hO, HX, hg, hB⟩ := hrel
      by_cases hlt : k < 3
      · have hlt' : (k : Int) < 3 := by omega
        have hk0 : (0 : Int) ≤ (k : Int) := by omega
        have hcell := blk_num hg k hlt
        obtain ⟨hy0, hy1⟩ := three_range h hk k hlt
        have HW : Hid (nums .u8 (wantF h k) ++ nums .u8 (leF 4 (rd [h.time, h.bits, h.nonce] k).toNat) = nums .u8 (wantF h (k + 1))) := Lib.hid (by rw [← nums_append, wantF_succ])
        obtain ⟨y, hy⟩ : ∃ y, y = rd [h.time, h.bits, h.nonce] k := ⟨_, rfl⟩
        rw [← hy] at hcell hy0 hy1 HW
        have HY := Lib.hid hy
        have hsr := hB.size
        clear hy
        go_wp2_with fail
        refine (reflit_calls _ y.toNat 4 (by omega) (by decide) _ rfl _ (by omega)).mono ?_
        rintro e w6 ⟨A6, c6, rfl, ho6, hg6, hx6⟩
        have b6 : Below wr.heap.size wr w6 := (Below.refl _ _).grown hg6 (Nat.le_refl _) (fun k hk => by simp [Value.ownBlock] at hk)
        have hO6 := own_below hO b6
        have gg6 := heap_below b6 hg
        have hB6 := below_then hB hB.size b6
        have r6 := Rd.of_own ho6
        have hs6 := hB6.size
        have hlo : Hid (∀ q, (Value.slice A1 (68 + 4 * k) c1).ownBlock = some q → w2.heap.size ≤ q) := Lib.hid fun q hq => own_base hO q hq
        have hlt5 := heap_lt hg
        clear hO hg hB hcell hg6 hx6 b6 ho6
        go_wp2_with (first | (refine wpList_appN rfl (.tmp 47) (.tmp 50) 22 rfl w2.heap.size 5 _ 1 Tryd.underlying22 infoU8 rfl (.slice A1 (68 + 4 * k) c1) (68 + 4 * k) (nums .u8 (wantF h k)) rfl hO6 A6 4 c6 (nums .u8 (leF 4 y.toNat)) rfl r6 (nums_one _ _) (68 + 4 * (k + 1)) (nums .u8 (wantF h (k + 1))) rfl HW.out (by unfold maxLen; omega) (by omega) hs6 ?_; intro A9 c9 w9 ho9 hg9 hx9))
        have hB9 : Below w2.heap.size w2 w9 := hB6.grown hg9 hs6 (fun q hq => hlo.out q hq)
        have gg9 := heap_grown hg9 gg6 (fun e => HX.out _ e.symm rfl)
        have HX9 : Hid (∀ q, (Value.slice A9 (68 + 4 * (k + 1)) c9).ownBlock = some q → q ≠ w5.heap.size) := Lib.hid fun q hq e => by
          have hl6 := heap_lt gg6
          rcases hx9 with hh | hh
          · exact HX.out q (hh.symm.trans hq) e
          · rw [hh] at hq; injection hq with hq; omega
        clear hg9 hx9 hO6 gg6 hB6 r6
        go_roundw
        case rel => exact ⟨k + 1, A9, c9, by omega, by go_num, rfl, ho9, HX9, gg9, hB9⟩
        case measure => simp [intOf]; omega
      · have hlt' : ¬ (k : Int) < 3 := by omega
        obtain rfl : k = 3 := by omega
        rw [wantF_three] at hO
        have hT9 := hT2.below hB
        have r9 := hr2.below hB
        have m9 := m7.below hB
        have g39 := heap_below hB g32
        have b09 := below_then b02 b02.size hB
        have mw := Rd.of_own hO
        have hcw := (own_le hO).1
        obtain ⟨gw, cw, hvw, _, hgw⟩ := hO.form (by decide)
        obtain ⟨rfl, _, rfl⟩ := Value.slice.inj hvw
        rw [show 68 + 4 * 3 = 80 from rfl] at mw hcw ⊢
        rw [show ((3 : Nat) : Int) = 3 from rfl]
        have kc7 := conv_rd (P := Tryd.prog) (src := 22) (dst := 9) (c := c7) Tryd.underlying22 Tryd.underlying5 Tryd.underlying9 m9
        have kc8 := conv_rd (P := Tryd.prog) (src := 22) (dst := 9) (c := c1) Tryd.underlying22 Tryd.underlying5 Tryd.underlying9 mw
        have hd := dblF_length (hbF h)
        clear hO HX hg hB hvw hT2 hr2 m7 g32 b02
        go_wp2_with (first | (refine wpList_load_rowG rfl 53 (.tmp 3) rfl w.heap.size rfl 53 _ _ _ g39 Tryd.underlying53 rfl hi53 ?_))
        refine (id_calls _ hT9 h hk).mono ?_
        rintro e w10 ⟨rfl, b10⟩
        have hT10 := hT9.below b10
        have r10 := r9.below b10
        have mw10 := mw.below b10
        have g310 := heap_below b10 g39
        have b010 := below_then b09 b09.size b10
        have hgw10 := Nat.lt_of_lt_of_le hgw b10.size
        clear hT9 r9 m9 g39 b09 mw b10 kc7 kc8 hgw
        go_wp2_with fail
        refine (double_calls (some ⟨gw, 0, none⟩) 80 c1 (hbF h) _ (by decide) hcw (hbF_bytes hk) mw10 hT10).mono ?_
        rintro e w11 ⟨rfl, b11⟩
        have hT11 := hT10.below b11
        have r11 := r10.below b11
        have mw11 := mw10.below b11
        have g311 := heap_below b11 g310
        have b011 := below_then b010 b010.size b11
        have hs11 := heap_lt g311
        clear hT10 r10 mw10 g310 b010 b11 hgw10
        have q1 := eq_digests (dblF (hbF h)) (dblF (hbF h)) hd hd rfl
        have hoe : (w11.alloc (.cells #[] 5)).ownsRow w11.heap.size 5 1 (.slice (some ⟨w11.heap.size, 0, none⟩) 0 0) 0 (nums .u8 []) := own_new [] (Nat.le_refl _) (by decide)
        have mw12 := mw11.alloc (.cells #[] 5)
        have hbm : Bytes (hbF h ++ ms) := (hbF_bytes hk).append hms
        have hF := parse_bytes h hk ms
        go_wp2_with (first
          | (refine wpList_appN rfl (.tmp 66) (.tmp 67) 22 rfl w11.heap.size 5 _ 1 Tryd.underlying22 infoU8 rfl (.slice (some ⟨w11.heap.size, 0, none⟩) 0 0) 0 (nums .u8 []) rfl hoe (some ⟨gw, 0, none⟩) 80 c1 (nums .u8 (hbF h)) rfl mw12 (nums_one _ _) 80 (nums .u8 (hbF h)) (Nat.zero_add _) rfl (by decide) (by decide) (by simp) ?_; intro A12 c12 w12 ho12 hg12 hx12; have b12 : Below w11.heap.size w11 w12 := ((Below.refl _ _).alloc (Nat.le_refl _) _).grown hg12 (by simp) (fun k hk => by have := Option.some.inj (show some w11.heap.size = some k from hk); omega); have r12 := r11.below b12; have hs12 := b12.size; clear hg12 hx12 hoe mw12)
          | (refine wpList_appN rfl (.tmp 68) (.tmp 69) 22 rfl w11.heap.size 5 _ 1 Tryd.underlying22 infoU8 rfl (.slice A12 80 c12) 80 (nums .u8 (hbF h)) rfl ho12 A n c (nums .u8 ms) rfl r12 (nums_one _ _) (80 + n) (nums .u8 (hbF h ++ ms)) rfl (nums_append _ _ _).symm (by unfold maxLen; omega) (by omega) hs12 ?_; intro A13 c13 w13 ho13 hg13 hx13; have b13 : Below w11.heap.size w11 w13 := b12.grown hg13 b12.size (fun k hk => own_base ho12 k hk); clear hg13 hx13 ho12 b12 r12 hs12)
          | fail)
        obtain ⟨gm, cm, hvm, _, _⟩ := ho13.form (by omega)
        obtain ⟨rfl, _, rfl⟩ := Value.slice.inj hvm
        have m13 := Rd.of_own ho13
        have hle13 := own_le ho13
        have g313 := heap_below b13 g311
        have b013 := below_then b011 b011.size b13
        have mw13 := mw11.below b13
        clear hvm ho13 b13 g311 b011 mw11 r11 hT11
        refine (parse_calls _ gm 0 (80 + n) c13 (hbF h ++ ms) (by omega) hle13.1 hle13.2 m13 hbm).mono ?_
        rintro e w14 ⟨rfl, b14⟩
        rw [hF]
        have g314 := heap_below b14 g313
        have mw14 := mw13.below b14
        have b014 := below_then b013 b013.size b14
        have hs14 := heap_lt g314
        clear g313 b013 b14 m13 mw13
        go_upto_region 17 with (first | (refine wpList_store_any rfl 53 (.tmp 11) (.tmp 72) rfl w14.heap.size h.cells.toArray rfl rfl 53 hd0.cells.toArray (heap_alloc_new _ _) hi53 (hd_sizes hd0_ok hk) (Hd.allOne h) ?_; intro w15 g11 ht15))
        have b15 : Below w14.heap.size w14 w15 := ht15.below ((Below.refl w14.heap.size w14).alloc (Nat.le_refl _) _) (Nat.le_refl _)
        have g315 := heap_below b15 g314
        have mw15 := mw14.below b15
        have b015 := below_then b014 b014.size b15
        have hm17 := HMK.out
        have hq17 := HQ.out
        clear ht15 g314 b014 b15 mw14
        go_upto_region 18 with fail
        clear hm17 hq17
        have hqI : (q : Int) ≤ (c1 : Int) := by omega
        have hq0 : (0 : Int) ≤ (q : Int) := by omega
        have hc10 : ¬ c1 = 0 := by omega
        rw [HQ.out]
        go_wp2_with fail
        refine (parse_short _ (some ⟨gw, 0, none⟩) q c1 hq1).mono ?_
        rintro e w16 ⟨rfl, b16⟩
        have g1116 := heap_below b16 g11
        have g316 := heap_below b16 g315
        have b016 := below_then b015 b015.size b16
        have hs16 := heap_lt g1116
        clear g11 g315 b015 b16 mw15
        go_upto_region 19 with (first | (refine wpList_store_any rfl 53 (.tmp 13) (.tmp 82) rfl w16.heap.size hd0.cells.toArray rfl rfl 53 hd0.cells.toArray (heap_alloc_new _ _) (info_hd hd0 hd0_ok) rfl (Hd.allOne hd0) ?_; intro w17 g13 ht17))
        have b17 : Below w16.heap.size w16 w17 := ht17.below ((Below.refl w16.heap.size w16).alloc (Nat.le_refl _) _) (Nat.le_refl _)
        have g1117 := heap_below b17 g1116
        have g317 := heap_below b17 g316
        have b017 := below_then b016 b016.size b17
        have q2 := eq_hd h hk
        clear ht17 g1116 g316 b016 b17 g13
        go_wp2_with (first | (refine wpList_load_rowG rfl 53 (.tmp 11) rfl w14.heap.size rfl 53 _ _ _ g1117 Tryd.underlying53 rfl hi53 ?_) | (refine wpList_load_rowG rfl 53 (.tmp 3) rfl w.heap.size rfl 53 _ _ _ g317 Tryd.underlying53 rfl hi53 ?_))
        go_ret
        exact ⟨rfl, b017⟩
end Go.Proofs.YtjlkakggmfmfiaaDoor
