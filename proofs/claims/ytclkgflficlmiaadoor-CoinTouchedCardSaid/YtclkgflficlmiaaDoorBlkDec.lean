/- block.Decode: the block that bytes are, or that they are none. -/
import Derived.Test.YtclkgflficlmiaaDoorBlkLaw
import Derived.Test.YtclkgflficlmiaaDoorHeldV
set_option maxRecDepth 100000
set_option linter.unusedVariables false
namespace Go.Proofs.YtclkgflficlmiaaDoor
open Go Go.RowKit
theorem list32b {α : Type} (l : List α) (h : l.length = 32) : ∃ a0 a1 a2 a3 a4 a5 a6 a7 a8 a9 a10 a11 a12 a13 a14 a15 a16 a17 a18 a19 a20 a21 a22 a23 a24 a25 a26 a27 a28 a29 a30 a31, l = [a0, a1, a2, a3, a4, a5, a6, a7, a8, a9, a10, a11, a12, a13, a14, a15, a16, a17, a18, a19, a20, a21, a22, a23, a24, a25, a26, a27, a28, a29, a30, a31] := by
  match l, h with
  | [a0, a1, a2, a3, a4, a5, a6, a7, a8, a9, a10, a11, a12, a13, a14, a15, a16, a17, a18, a19, a20, a21, a22, a23, a24, a25, a26, a27, a28, a29, a30, a31], _ => exact ⟨a0, a1, a2, a3, a4, a5, a6, a7, a8, a9, a10, a11, a12, a13, a14, a15, a16, a17, a18, a19, a20, a21, a22, a23, a24, a25, a26, a27, a28, a29, a30, a31, rfl⟩
theorem built_blk0 (ver : Int) (prev root : List Int) (time bits nonce : Int) (h1 : prev.length = 32) (h2 : root.length = 32) : Tryd.prog.built 49 [(0, .agg (⟨ver, prev, root, time, bits, nonce⟩ : Hd).cells.toArray)] = some (blkCells ⟨ver, prev, root, time, bits, nonce⟩ none 0 0).toArray := by
  obtain ⟨a0, a1, a2, a3, a4, a5, a6, a7, a8, a9, a10, a11, a12, a13, a14, a15, a16, a17, a18, a19, a20, a21, a22, a23, a24, a25, a26, a27, a28, a29, a30, a31, hl⟩ := list32b prev h1
  obtain ⟨b0, b1, b2, b3, b4, b5, b6, b7, b8, b9, b10, b11, b12, b13, b14, b15, b16, b17, b18, b19, b20, b21, b22, b23, b24, b25, b26, b27, b28, b29, b30, b31, hr⟩ := list32b root h2
  subst hl
  subst hr
  kernel_rfl
theorem built_blk (h : Hd) (hk : h.Ok) : Tryd.prog.built 49 [(0, .agg h.cells.toArray)] = some (blkCells h none 0 0).toArray :=
  built_blk0 h.ver h.prev h.root h.time h.bits h.nonce hk.prev.1 hk.root.1
theorem wpList_build_blk {ops : Array Oper} {rest : List Oper} {o : Oper} {a : Act} {w : World} {Q : Exit → Act → World → Prop} (hg : o.guard = none) (parts : Array (Nat × Operand)) (ho : o.op = .build 49 parts)
    (x : Hd) (hx : x.Ok) (hp : parts.toList.map (fun y => (y.1, a.eval y.2)) = [(0, .agg x.cells.toArray)])
    (h : wpList Tryd.prog ops Q rest (a.put o.dst (.agg (blkCells x none 0 0).toArray)) w) : wpList Tryd.prog ops Q (o :: rest) a w := by
  have hp' : (parts.map fun (i, y) => (i, a.eval y)).toList = [(0, .agg x.cells.toArray)] := by
    rw [Array.toList_map]
    exact hp
  refine wpList_build hg 49 parts ho ?_ ?_
  · rw [hp', built_blk x hx]; rfl
  · rw [hp', built_blk x hx]; exact h
theorem blkCells_set {h : Hd} (hk : h.Ok) (A B : Option Addr) (n c m d : Nat) : (blkCells h A n c).toArray.setIfInBounds 68 (.slice B m d) = (blkCells h B m d).toArray := by
  apply Array.ext'
  rw [Array.toList_setIfInBounds, List.toList_toArray, List.toList_toArray]
  unfold blkCells
  rw [List.set_append_right _ _ (by rw [Hd.length hk]; exact Nat.le_refl _), Hd.length hk]
  rfl
theorem Rd.blk {w w' : World} {b o n : Nat} {xs : List Value} (h : Rd w (some ⟨b, o, none⟩) n xs) (hb : w'.heap[b]? = w.heap[b]?) : Rd w' (some ⟨b, o, none⟩) n xs := by
  refine ⟨h.1, fun hn => ?_⟩
  obtain ⟨b', o', e, hc⟩ := h.2 hn
  injection e with e
  injection e with e1 e2
  subst e1 e2
  exact ⟨b, o, rfl, fun j u hu => (cell_move hb).trans (hc j u hu)⟩
theorem cutA_some (D o c m : Nat) : ∃ o', cutA (some ⟨D, o, none⟩) c m = some ⟨D, o', none⟩ := by
  unfold cutA
  split
  · exact ⟨o, rfl⟩
  · exact ⟨o + m, by rw [Option.map_some, add_plain']⟩
section
variable {bs : List Int}
theorem decBk_short (h : bs.length < 80) : decBk bs = none := by unfold decBk; rw [if_pos h]
theorem decBk_bad (h0 : ¬ bs.length < 80) (h : (expF (bs.drop 80)).2.2 ≠ 0 ∨ 1024 < (expF (bs.drop 80)).1) : decBk bs = none := by unfold decBk; rw [if_neg h0, if_pos h]
theorem decBk_else (h0 : ¬ bs.length < 80) (h1 : (expF (bs.drop 80)).2.2 = 0) (h2 : ¬ 1024 < (expF (bs.drop 80)).1) : (decTs (expF (bs.drop 80)).1.toNat ((bs.drop 80).drop (expF (bs.drop 80)).2.1) = none → decBk bs = none) ∧
    ∀ ts r, decTs (expF (bs.drop 80)).1.toNat ((bs.drop 80).drop (expF (bs.drop 80)).2.1) = some (ts, r) → decBk bs = if r = [] then some ⟨parseF bs, ts⟩ else none := by
  have e : decBk bs = match decTs (expF (bs.drop 80)).1.toNat ((bs.drop 80).drop (expF (bs.drop 80)).2.1) with
    | some (ts, []) => some ⟨parseF bs, ts⟩
    | _ => none := by
    conv => lhs; unfold decBk
    rw [if_neg h0, if_neg (fun h => by rcases h with h | h; exact h h1; exact h2 h)]
    rfl
  refine ⟨fun h => by rw [e, h], fun ts r h => ?_⟩
  rw [e, h]
  cases r <;> rfl
end
def DecBPost (w : World) (bs : List Int) (e : Ending) (w' : World) : Prop :=
  (decBk bs = none → e = .returned (.tuple #[.agg (blkCells hd0 none 0 0).toArray, .int .i64 2])) ∧
  (∀ x, decBk bs = some x → ∃ cs, e = .returned (.tuple #[.agg cs.toArray, .int .i64 0]) ∧ blkK.K (fun b => w.heap.size ≤ b) w' x cs) ∧ Below w.heap.size w w'
set_option maxHeartbeats 8000000 in
theorem decB_calls (w : World) (A : Option Addr) (n c : Nat) (bs : List Int) (hnc : n ≤ c) (hcm : c ≤ maxLen) (hn : n ≤ 262144) (hr : Rd w A n (nums .u8 bs)) (hbs : Bytes bs) :
    Calls Tryd.prog 43 #[.slice A n c] w (DecBPost w bs) := by
  have hUH := Tryd.underlying37
  have hUB := Tryd.underlying49
  have hU := Tryd.underlying54
  have hUL := Tryd.underlying47
  have hcm' := hcm
  unfold maxLen at hcm'
  have hl : bs.length = n := by have := hr.1; rwa [nums_length] at this
  have hn' : ¬ (262144 : Int) < (n : Int) := by omega
  have g0 := heap_alloc_new w (.cells (blkCells hd0 none 0 0).toArray 49)
  have hb0 : Below w.heap.size w (w.alloc (.cells (blkCells hd0 none 0 0).toArray 49)) := (Below.refl _ _).alloc (Nat.le_refl _) _
  go_enter Tryd.func43, Tryd.ntmps43
  go_upto_region 1 with fail
  refine wp_gen (q := fun wi => wi.heap[w.heap.size]? = some (.cells (blkCells hd0 none 0 0).toArray 49) ∧ Below w.heap.size w wi) ⟨g0, hb0⟩ (fun w0 hw => ?_)
  clear g0 hb0
  obtain ⟨g0, hb0⟩ := hw
  have hr0 := hr.below hb0
  have HL := Lib.hid hl
  clear hr hl
  by_cases h80 : n < 80
  · have HD : Hid (decBk bs = none) := Lib.hid (decBk_short (by rw [HL.out]; exact h80))
    go_wp2_with fail
    refine (parse_short w0 A n c h80).mono ?_
    rintro e w1 ⟨rfl, hb1⟩
    have g1 := heap_below hb1 g0
    have hB1 := below_then hb0 hb0.size hb1
    have hlo := heap_lt g1
    clear g0 hb0 hr0 hb1
    go_upto_region 4 with (first | ((with_reducible refine wpList_atS 4 ?_); refine wpList_store_any rfl 37 (.tmp 4) (.tmp 20) rfl w1.heap.size hd0.cells.toArray rfl rfl 37 hd0.cells.toArray (heap_alloc_new _ _) (info_hd hd0 hd0_ok) rfl (Hd.allOne hd0) ?_; intro w2 h2 ht2))
    have g2 := ht2.keep (blk_alloc g1 (.cells hd0.cells.toArray 37)) (by omega)
    have hB2 := ht2.below (hB1.alloc hB1.size (.cells hd0.cells.toArray 37)) hB1.size
    clear g1 hB1 h2 ht2
    go_wp2_with (first | ((with_reducible refine wpList_atS 2 ?_); refine wpList_store_any rfl 49 (.tmp 2) (.tmp 24) rfl w.heap.size (blkCells hd0 none 0 0).toArray rfl rfl 49 (blkCells hd0 none 0 0).toArray g2 (info_blkA hd0_ok none 0 0) rfl (blkCells_all hd0 none 0 0) ?_; intro wE hE htE))
    exact bodyPost_ret (results_cell_tmp rfl _ _ w.heap.size 49 (blkCells hd0 none 0 0).toArray (0, 0) _ rfl hE Tryd.underlying49 rfl (info_blkA hd0_ok none 0 0)) rfl ⟨(fun _ => rfl), (fun x hx => by rw [HD.out] at hx; cases hx), htE.below hB2 (Nat.le_refl _)⟩
  · have h80' : 80 ≤ n := by omega
    obtain ⟨b, o, rfl, _⟩ := hr0.2 (by omega)
    have hDl : b < w0.heap.size := by
      obtain ⟨b', o', e, hc⟩ := hr0.addr (by omega)
      injection e with e
      injection e with e1 e2
      subst e1
      exact cell_lt (hc 0 (by omega))
    have hok := parseF_ok bs hbs (by have := HL.out; omega)
    have H80 : Hid (¬ bs.length < 80) := Lib.hid (by have := HL.out; omega)
    obtain ⟨hh, hhe⟩ : ∃ hh, parseF bs = hh := ⟨_, rfl⟩
    go_wp2_with fail
    refine (parse_calls w0 b o n c bs h80' hnc hcm hr0 hbs).mono ?_
    rintro e w1 ⟨rfl, hb1⟩
    rw [hhe] at hok ⊢
    have HH := Lib.hid hhe
    have g1 := heap_below hb1 g0
    have hr1 := hr0.below hb1
    have hDl1 := Nat.lt_of_lt_of_le hDl hb1.size
    have hB1 := below_then hb0 hb0.size hb1
    have hlo := heap_lt g1
    clear g0 hb0 hr0 hb1 hDl hhe
    go_upto_region 4 with (first | ((with_reducible refine wpList_atS 4 ?_); refine wpList_store_any rfl 37 (.tmp 4) (.tmp 20) rfl w1.heap.size hh.cells.toArray rfl rfl 37 hd0.cells.toArray (heap_alloc_new _ _) (info_hd hh hok) (hd_sizes hd0_ok hok) (Hd.allOne hh) ?_; intro w2 h2 ht2))
    have g2 := ht2.keep (blk_alloc g1 (.cells hd0.cells.toArray 37)) (by omega)
    have hB2 := ht2.below (hB1.alloc hB1.size (.cells hd0.cells.toArray 37)) hB1.size
    have hb2 : Below w1.heap.size w1 w2 := ht2.below ((Below.refl _ _).alloc (Nat.le_refl _) (.cells hd0.cells.toArray 37)) (Nat.le_refl _)
    have hr2 := hr1.below hb2
    have hDl2 := Nat.lt_of_lt_of_le hDl1 hb2.size
    have hlo1 := heap_lt h2
    clear g1 hB1 ht2 hr1 hDl1 hb2
    have k80 : ∀ W, (Instr.slice 22 (.slice (some ⟨b, o, none⟩) n c) (some (.int .i64 80)) none none).run Tryd.prog W = .ok (.slice (cutA (some ⟨b, o, none⟩) c 80) (n - 80) (c - 80)) W := fun W => cut_tail (some ⟨b, o, none⟩) n c 80 h80' W
    have hR80 := rd_cutA hr2 80 h80' hnc
    rw [nums_drop] at hR80
    go_wp2_with fail
    refine (exp_calls w2 _ (n - 80) (c - 80) (bs.drop 80) (by omega) (by unfold maxLen; omega) hR80 (hbs.drop 80)).mono ?_
    rintro e w3 ⟨rfl, hb3⟩
    have g3 := heap_below hb3 g2
    have h3 := heap_below hb3 h2
    have hr3 := hr2.below hb3
    have hDl3 := Nat.lt_of_lt_of_le hDl2 hb3.size
    have hB3 := below_then hB2 hB2.size hb3
    have hxr := expF_range (hbs.drop 80)
    have HCUT : Hid (∀ x k, expF (bs.drop 80) = (x, k, 0) → k ≤ (bs.drop 80).length) := Lib.hid (fun x k h => (expF_cut h).1)
    obtain ⟨⟨X, k, er⟩, hX⟩ : ∃ Z, expF (bs.drop 80) = Z := ⟨_, rfl⟩
    have HX := Lib.hid hX
    rw [hX] at hxr ⊢
    simp only at hxr ⊢
    clear g2 h2 hR80 hr2 hDl2 hB2 hb3 k80 hX
    by_cases he : er = 0
    · subst he
      have hkl : k + 80 ≤ n := by have := HCUT.out _ _ HX.out; rw [List.length_drop, HL.out] at this; omega
      by_cases hbig : 1024 < X
      · have hbig' : decide ((1024 : Int) < X) = true := decide_eq_true hbig
        have HD : Hid (decBk bs = none) := Lib.hid (decBk_bad H80.out (.inr (by rw [HX.out]; exact hbig)))
        go_wp2_with (first | ((with_reducible refine wpList_atS 2 ?_); refine wpList_store_any rfl 49 (.tmp 2) (.tmp 38) rfl w.heap.size (blkCells hd0 none 0 0).toArray rfl rfl 49 (blkCells hd0 none 0 0).toArray g3 (info_blkA hd0_ok none 0 0) rfl (blkCells_all hd0 none 0 0) ?_; intro wE hE htE))
        exact bodyPost_ret (results_cell_tmp rfl _ _ w.heap.size 49 (blkCells hd0 none 0 0).toArray (0, 0) _ rfl hE Tryd.underlying49 rfl (info_blkA hd0_ok none 0 0)) rfl ⟨(fun _ => rfl), (fun x hx => by rw [HD.out] at hx; cases hx), htE.below hB3 (Nat.le_refl _)⟩
      · have hbig' : decide ((1024 : Int) < X) = false := decide_eq_false hbig
        obtain ⟨m, rfl⟩ := Int.eq_ofNat_of_zero_le hxr.1
        have HE := Lib.hid (decBk_else H80.out (by rw [HX.out]) (by rw [HX.out]; exact hbig))
        have HE2 : Hid ((decTs m ((bs.drop 80).drop k) = none → decBk bs = none) ∧ ∀ ts r, decTs m ((bs.drop 80).drop k) = some (ts, r) → decBk bs = if r = [] then some ⟨hh, ts⟩ else none) := Lib.hid (by have := HE.out; rw [HX.out, HH.out] at this; exact this)
        have hm : m ≤ 1024 := by omega
        have hwm : IntKind.i64.wrap (m : Int) = m := by rw [IntKind.wrap_i64]; omega
        have hbk := Lib.hid (built_blk hh hok)
        clear HE hxr hbig
        go_upto_region 10 with (first
          | ((with_reducible refine wpList_at 39 ?_); refine wpList_load_row rfl 37 (.tmp 4) rfl w1.heap.size rfl 37 _ _ _ h3 hUH rfl (info_hd hh hok) ?_)
          | ((with_reducible refine wpList_at 40 ?_); refine wpList_build_blk rfl _ rfl hh hok rfl ?_)
          | ((with_reducible refine wpList_atS 8 ?_); refine wpList_store_any rfl 49 (.tmp 8) (.tmp 40) rfl w3.heap.size (blkCells hh none 0 0).toArray rfl rfl 49 (blkCells hd0 none 0 0).toArray (heap_alloc_new _ _) (info_blkA hok none 0 0) (by rw [List.size_toArray, List.size_toArray, blkCells_length hok, blkCells_length hd0_ok]) (blkCells_all hh none 0 0) ?_; intro w5 h5 ht5))
        have hb5 : Below w3.heap.size w3 w5 := ht5.below ((Below.refl _ _).alloc (Nat.le_refl _) (.cells (blkCells hd0 none 0 0).toArray 49)) (Nat.le_refl _)
        have g5 := heap_below hb5 g3
        have hr5 := hr3.below hb5
        have hDl5 := Nat.lt_of_lt_of_le hDl3 hb5.size
        have hB5 := below_then hB3 hB3.size hb5
        have hlo5 := heap_lt h5
        have hlo2 : w.heap.size < w3.heap.size := heap_lt g3
        obtain ⟨g8, hg8⟩ : ∃ g, w3.heap.size = g := ⟨_, rfl⟩
        have kt : ∀ W, (Instr.slice 22 (.slice (some ⟨b, o, none⟩) n c) (some (.int .i64 (80 + (k : Int)))) none none).run Tryd.prog W = .ok (.slice (cutA (some ⟨b, o, none⟩) c (80 + k)) (n - (80 + k)) (c - (80 + k))) W := fun W => by
          rw [show (80 : Int) + (k : Int) = ((80 + k : Nat) : Int) by omega]
          exact cut_tail (some ⟨b, o, none⟩) n c (80 + k) (by omega) W
        obtain ⟨o5, ho5⟩ := cutA_some b o c (80 + k)
        have hRk := rd_cutA hr5 (80 + k) (by omega) hnc
        rw [ho5] at hRk
        have hdd : (nums .u8 bs).drop (80 + k) = nums .u8 ((bs.drop 80).drop k) := by rw [nums_drop, List.drop_drop]
        rw [hdd] at hRk
        have hRb := (hbs.drop 80).drop k
        obtain ⟨rest0, hrest0⟩ : ∃ r, (bs.drop 80).drop k = r := ⟨_, rfl⟩
        rw [hrest0] at hRk hRb HE2
        rw [ho5] at kt
        have hO5 : txK.Own (fun q => w5.heap.size ≤ q ∧ some q ≠ (Value.slice none 0 0).ownBlock) w5 w5.heap.size 54 (.slice none 0 0) 0 [] := RK.Own.nil _ _ _ _ _
        have hbg : b < w3.heap.size := hDl3
        rw [hg8] at h5 hlo5 hlo2 hbg ⊢
        clear g3 h3 hr3 hDl3 hB3 ht5 hb5 hr5 hdd ho5 hrest0 hg8 hbk
        go_wp2
        go_loopw [9, 47] (fun v9 v47 wr => ∃ (j m2 d od : Nat) (A8 : Option Addr) (N8 c8 : Nat) (us : List TTx) (rest : List Int), j ≤ m ∧ v47 = .int .i64 j ∧ v9 = .slice (some ⟨b, od, none⟩) m2 d ∧ m2 ≤ d ∧ d ≤ maxLen ∧ Rd wr (some ⟨b, od, none⟩) m2 (nums .u8 rest) ∧ Hid (Bytes rest) ∧ wr.heap[g8]? = some (.cells (blkCells hh A8 N8 c8).toArray 49) ∧ txK.Own (fun q => w5.heap.size ≤ q ∧ some q ≠ (Value.slice A8 N8 c8).ownBlock) wr w5.heap.size 54 (.slice A8 N8 c8) N8 us ∧ Hid (decTs m rest0 = (decTs (m - j) rest).map (fun z => (us ++ z.1, z.2))) ∧ N8 ≤ j ∧ wr.heap[w.heap.size]? = some (.cells (blkCells hd0 none 0 0).toArray 49) ∧ w5.heap.size ≤ wr.heap.size ∧ Below w.heap.size w wr) (fun _ v _ => m - (intOf v).toNat)
        case atStart =>
          refine ⟨0, n - (80 + k), c - (80 + k), o5, none, 0, 0, [], rest0, by omega, rfl, rfl, by omega, by unfold maxLen; omega, hRk, Lib.hid hRb, h5, hO5, Lib.hid ?_, Nat.le_refl _, g5, Nat.le_refl _, hB5⟩
          rw [Nat.sub_zero]
          cases decTs m rest0 <;> rfl
        case round =>
          clear hRk hRb h5 hO5 g5 kt
          obtain ⟨j, m2, d, od, A8, N8, c8, us, rest, hj, rfl, rfl, hm1, hm2, hRr, HRB, h8, hO, HT, hN8, gz, hsz, hB⟩ := hrel
          have hDr := Nat.lt_of_lt_of_le hDl5 hsz
          have hm2I : (m2 : Int) ≤ 9223372036854775807 := by unfold maxLen at hm2; omega
          by_cases hlt : j < m
          · have hlt' : (j : Int) < (m : Int) := by omega
            have HTS : Hid (decTs m rest0 = (if decE rest = 0 then (decTs (m - (j + 1)) (rest.drop (decN rest))).map (fun z => (decT rest :: z.1, z.2)) else none).map (fun z => (us ++ z.1, z.2))) := Lib.hid (by rw [HT.out, show m - j = (m - (j + 1)) + 1 by omega, decTs])
            have hrd := Lib.hid (fun h : decE rest = 0 => dec_read HRB.out h)
            go_wp2_with fail
            refine (dec_calls wr b od m2 d rest hm1 hm2 hRr hDr HRB.out).mono ?_
            rintro e w6 ⟨cs, rfl, hK6, hZ6, hb6⟩
            have h86 := heap_below hb6 h8
            have gz6 := heap_below hb6 gz
            have hO6 := hO.below hb6
            have hR6 := hRr.below hb6
            have hB6 := below_then hB hB.size hb6
            have hs6 := hb6.size
            have hwr6 := hb6.size
            by_cases hE : decE rest = 0
            · have hK6 := hK6 hE
              have hNl : decN rest ≤ m2 := by have h1 := (hrd.out hE).2.2.1; have h2 := hRr.1; rw [nums_length] at h2; omega
              rw [hE, if_pos rfl]
              have HTS2 : Hid (decTs m rest0 = (decTs (m - (j + 1)) (rest.drop (decN rest))).map (fun z => (us ++ [decT rest] ++ z.1, z.2))) := Lib.hid (by
                rw [HTS.out, if_pos hE, Option.map_map]
                congr 1
                funext z
                simp)
              obtain ⟨x, hx⟩ : ∃ x, decT rest = x := ⟨_, rfl⟩
              obtain ⟨N, hN⟩ : ∃ N, decN rest = N := ⟨_, rfl⟩
              rw [hx] at hK6 HTS2
              rw [hN] at hNl HTS2 ⊢
              have HNB : Hid (Bytes (rest.drop N)) := Lib.hid (HRB.out.drop N)
              obtain ⟨X1, xc1, X2, xc2, hcs, x1, x2, x3, x4, _, _⟩ := txK_form hK6
              subst hcs
              have hi4 := info_tx4 (.int .i32 x.ver) (.slice X1 x.ins.length xc1) (.slice X2 x.outs.length xc2) (.int .u32 x.lock)
              have hOld := hO.lt
              have hOr : txK.Own (fun q => w5.heap.size ≤ q ∧ q < w6.heap.size ∧ some q ≠ (Value.slice A8 N8 c8).ownBlock) w6 w5.heap.size 54 (.slice A8 N8 c8) N8 us := (RK.Own.restr txK_restr hO6).mono_ (fun q h => ⟨h.1.1, h.2, h.1.2⟩)
              have hKr : txK.K (fun q => w5.heap.size ≤ q ∧ q < w6.heap.size ∧ some q ≠ (Value.slice A8 N8 c8).ownBlock) w6 x [.int .i32 x.ver, .slice X1 x.ins.length xc1, .slice X2 x.outs.length xc2, .int .u32 x.lock] := txK.mono (fun q h => ⟨Nat.le_trans hsz h.1, h.2, fun e => by have h2 := h.1; have := (hOld q e.symm).2; omega⟩) (txK_restr _ _ hK6)
              clear hK6 hZ6 hO6 hO hE hx hN h8 gz hRr hB hb6 HT HTS
              go_upto_region 14 with fail
              refine wp_gen (q := fun wi => wi.heap[w6.heap.size]? = some (.cells ([.int .i32 x.ver, .slice X1 x.ins.length xc1, .slice X2 x.outs.length xc2, .int .u32 x.lock]).toArray 54) ∧ Below w6.heap.size w6 wi) ⟨heap_alloc_new _ _, (Below.refl _ _).alloc (Nat.le_refl _) _⟩ (fun w7 hw => ?_)
              obtain ⟨g10, hb7⟩ := hw
              have h87 := heap_below hb7 h86
              have gz7 := heap_below hb7 gz6
              have hR7 := hR6.below hb7
              have hB7 := below_then hB6 hB6.size hb7
              have hO7 := hOr.below hb7
              have hK7 := RK.K_below hKr hb7
              have hs7 := hb7.size
              have cT : w7.drew.cell? ⟨g8, 68, none⟩ = some (.slice A8 N8 c8) := blk_cell h87 (by rw [List.getElem?_toArray]; exact blkCells_at hok A8 N8 c8)
              have r10 : w7.drew.rangeAt w6.heap.size 0 [.int .i32 x.ver, .slice X1 x.ins.length xc1, .slice X2 x.outs.length xc2, .int .u32 x.lock] := range_block (xs := [.int .i32 x.ver, .slice X1 x.ins.length xc1, .slice X2 x.outs.length xc2, .int .u32 x.lock]) g10
              have hlo10 : w6.heap.size < w7.heap.size := heap_lt g10
              have kt := fun W => cut_tail (some ⟨b, od, none⟩) m2 d N hNl W
              obtain ⟨o7, ho7⟩ := cutA_some b od d N
              rw [ho7] at kt
              have hlt8 := hO7.lt
              have hO7d : txK.Own (fun q => w5.heap.size ≤ q ∧ q < w6.heap.size ∧ some q ≠ (Value.slice A8 N8 c8).ownBlock) w7.drew w5.heap.size 54 (.slice A8 N8 c8) N8 us := hO7.below (Below.drew (Below.refl _ _))
              have hK7d : txK.K (fun q => w5.heap.size ≤ q ∧ q < w6.heap.size ∧ some q ≠ (Value.slice A8 N8 c8).ownBlock) w7.drew x [.int .i32 x.ver, .slice X1 x.ins.length xc1, .slice X2 x.outs.length xc2, .int .u32 x.lock] := RK.K_below hK7 (Below.drew (Below.refl _ _))
              have h87d : w7.drew.heap[g8]? = _ := h87
              have gz7d : w7.drew.heap[w.heap.size]? = _ := gz7
              have hR7d : Rd w7.drew (some ⟨b, od, none⟩) m2 (nums .u8 rest) := hR7
              have hB7d : Below w.heap.size w w7.drew := below_then hB7 hB7.size (Below.drew (Below.refl _ _))
              have hsd : w7.drew.heap.size = w7.heap.size := rfl
              clear h87 gz7 hR7 hB7 hO7 hK7 hOr hKr h86 gz6 hR6 hB6 g10 hb7
              go_upto_region 16 with fail
              refine wp_region_noPanic ?_
              refine wp_region_heldV (fun w' => w'.cell? ⟨g8, 68, none⟩ = some (.slice A8 N8 c8) ∧ w'.rangeAt w6.heap.size 0 [.int .i32 x.ver, .slice X1 x.ins.length xc1, .slice X2 x.outs.length xc2, .int .u32 x.lock]) 9 (by kernel_rfl) ⟨cT, r10⟩ (fun hHeld => ?_)
              -- 0: block.go:171 slot 58 := Op.fieldAddr 64 t8 1
              refine wpAnyV_take (i := 0) (oi := ⟨some 58, _, _, _, _, _⟩) (v := ?_) rfl (by kernel_rfl) (by kernel_rfl) (by kernel_rfl) (by kernel_rfl) (fun _ _ _ h => h) (Or.inl ⟨by rfl, ?_⟩) (by assumption) ?_
              rotate_left 1
              · intro w hSw; (try dsimp only at hSw); go_simp; try with_reducible rfl
              simp only [Act.put, List.setIfInBounds_toArray, List.set_cons_zero, List.set_cons_succ]
              -- 1: block.go:171 slot 59 := Op.load 62 t58
              refine wpAnyV_take (i := 1) (oi := ⟨some 59, _, _, _, _, _⟩) (v := ?_) rfl (by kernel_rfl) (by kernel_rfl) (by kernel_rfl) (by kernel_rfl) (fun _ _ _ h => h) (Or.inl ⟨by rfl, ?_⟩) (by assumption) ?_
              rotate_left 1
              · intro w hSw; (try dsimp only at hSw); go_simp; try with_reducible rfl
              simp only [Act.put, List.setIfInBounds_toArray, List.set_cons_zero, List.set_cons_succ]
              -- 2: block.go:171 slot 60 := Op.load 69 t10
              refine wpAnyV_take (i := 2) (oi := ⟨some 60, _, _, _, _, _⟩) rfl (by kernel_rfl) (by kernel_rfl) (by kernel_rfl) (by kernel_rfl) (fun _ _ _ h => h) (yieldsIf_load_mid (by rfl) _ _ rfl _ _ rfl ([.int .i32 x.ver, .slice X1 x.ins.length xc1, .slice X2 x.outs.length xc2, .int .u32 x.lock]) _ (fun _ h => h.2) hU rfl hi4) (by assumption) ?_
              simp only [Act.put, List.setIfInBounds_toArray, List.set_cons_zero, List.set_cons_succ]
              -- 5: block.go:171 slot 63 := Op.move t9
              refine wpAnyV_pure (i := 5) (oi := ⟨some 63, _, _, _, _, _⟩) (v := ?_) rfl (by kernel_rfl) (by kernel_rfl) (by kernel_rfl) (by kernel_rfl) (fun _ _ _ h => h) (Or.inl ⟨by rfl, ?_⟩) (by assumption) ?_
              rotate_left 1
              · intro w hSw; (try dsimp only at hSw); go_simp; try with_reducible rfl
              simp only [Act.put, List.setIfInBounds_toArray, List.set_cons_zero, List.set_cons_succ]
              -- 6: block.go:171 slot 64 := Op.move t11
              refine wpAnyV_pure (i := 6) (oi := ⟨some 64, _, _, _, _, _⟩) (v := ?_) rfl (by kernel_rfl) (by kernel_rfl) (by kernel_rfl) (by kernel_rfl) (fun _ _ _ h => h) (Or.inl ⟨by rfl, ?_⟩) (by assumption) ?_
              rotate_left 1
              · intro w hSw; (try dsimp only at hSw); go_simp; try with_reducible rfl
              simp only [Act.put, List.setIfInBounds_toArray, List.set_cons_zero, List.set_cons_succ]
              -- 7: block.go:171 slot 65 := Op.slice 22 t63 (some t64) none none
              refine wpAnyV_pure (i := 7) (oi := ⟨some 65, _, _, _, _, _⟩) (v := ?_) rfl (by kernel_rfl) (by kernel_rfl) (by kernel_rfl) (by kernel_rfl) (fun _ _ _ h => h) (Or.inl ⟨by rfl, ?_⟩) (by assumption) ?_
              rotate_left 1
              · intro w hSw; (try dsimp only at hSw); go_simp; try with_reducible rfl
              simp only [Act.put, List.setIfInBounds_toArray, List.set_cons_zero, List.set_cons_succ]
              -- 3: block.go:171 slot 61 := Op.buildSlice 62 1 #[(0, t60)]
              refine wpAnyV_ready (i := 3) (o := ⟨some 61, _, _, _, _, _⟩) (by kernel_rfl) rfl (by decide) (fun K hK => ?_)
              refine step_build1 (by rfl) 47 54 _ (by rfl) hUL _ 4 64 zinfo_tx (by decide) (by decide) [.int .i32 x.ver, .slice X1 x.ins.length xc1, .slice X2 x.outs.length xc2, .int .u32 x.lock] rfl rfl (by rfl) ?_
              have hgr := World.grownBy_alloc w7.drew (.cells ([.int .i32 x.ver, .slice X1 x.ins.length xc1, .slice X2 x.outs.length xc2, .int .u32 x.lock]).toArray 54) none
              refine hK.out _ _ ⟨cell_grown hgr hHeld.1 (by simp), range_grown hgr hHeld.2 (by simp)⟩ (fun hHeld' => ?_)
              clear hHeld
              have hHeld := hHeld'
              clear hHeld'
              clear hK K
              try (simp only [Act.put, List.setIfInBounds_toArray, List.set_cons_zero, List.set_cons_succ])
              -- 4: block.go:171 slot 62 := Op.call { builtin append, args := #[t59, t61], argTypes := #[62, 62] }
              refine wpAnyV_ready (i := 4) (o := ⟨some 62, _, _, _, _, _⟩) (by kernel_rfl) rfl (by decide) (fun K hK => ?_)
              have hq1 := hO7d.alloc (.cells ([.int .i32 x.ver, .slice X1 x.ins.length xc1, .slice X2 x.outs.length xc2, .int .u32 x.lock]).toArray 54)
              have hq2 := RK.Src.one (heap_alloc_new w7.drew (.cells ([.int .i32 x.ver, .slice X1 x.ins.length xc1, .slice X2 x.outs.length xc2, .int .u32 x.lock]).toArray 54)) (RK.K_below hK7d ((Below.refl _ _).alloc (Nat.le_refl _) _))
              have hms : w5.heap.size ≤ (w7.drew.alloc (.cells ([.int .i32 x.ver, .slice X1 x.ins.length xc1, .slice X2 x.outs.length xc2, .int .u32 x.lock]).toArray 54)).heap.size := by simp; omega
              refine RK.step_appK' txK _ (by rfl) (.tmp 59) (.tmp 61) 47 (by rfl) _ w5.heap.size 54 _ 64 hUL zinfo_tx rfl (by decide) (.slice A8 N8 c8) N8 us (by rfl) hq1 (fun q h => h.2.2) _ 1 1 [x] (by rfl) hq2 (N8 + 1) (us ++ [x]) rfl rfl (by unfold maxLen; omega) (by omega) hms ?_
              intro A9 c9 w9 hO9 hG9 hx9
              have hlo9 : Hid (∀ q, (Value.slice A8 N8 c8).ownBlock = some q → w5.heap.size ≤ q) := Lib.hid fun q hq => (hlt8 q hq).1
              refine hK.out _ _ ⟨cell_grown hG9 hHeld.1 (fun e => by have := hlo9.out _ e.symm; omega), range_grown hG9 hHeld.2 (fun e => by have := (hOld _ e.symm).2; omega)⟩ (fun hHeld' => ?_)
              clear hHeld
              have hHeld := hHeld'
              clear hHeld'
              have h89 : w9.heap[g8]? = _ := heap_grown hG9 (blk_alloc h87d (.cells ([.int .i32 x.ver, .slice X1 x.ins.length xc1, .slice X2 x.outs.length xc2, .int .u32 x.lock]).toArray 54)) (fun e => by have := hlo9.out _ e.symm; omega)
              have f9 := blk_frozen h89 68
              clear hK K
              try (simp only [Act.put, List.setIfInBounds_toArray, List.set_cons_zero, List.set_cons_succ])
              -- 8: block.go:171 slot 66 := Op.fieldAddr 64 t8 1
              refine wpAnyV_take (i := 8) (oi := ⟨some 66, _, _, _, _, _⟩) (v := ?_) rfl (by kernel_rfl) (by kernel_rfl) (by kernel_rfl) (by kernel_rfl) (fun _ _ _ h => h) (Or.inl ⟨by rfl, ?_⟩) (by assumption) ?_
              rotate_left 1
              · intro w hSw; (try dsimp only at hSw); go_simp; try with_reducible rfl
              simp only [Act.put, List.setIfInBounds_toArray, List.set_cons_zero, List.set_cons_succ]
              -- 9: block.go:171 slot none := Op.store 62 t66 t62
              refine wpAnyV_last (i := 9) (o := ⟨none, _, _, _, _, _⟩) (by kernel_rfl) rfl (by kernel_rfl) (fun K hK => ?_)
              have hH9 := hHeld.1
              go_simp
              refine hK.out _ _ ?_
              clear hK K
              try (simp only [Act.put])
              -- 10: block.go:171 slot 9 := Op.assign t65
              refine wpAnyV_last (i := 10) (o := ⟨some 9, _, _, _, _, _⟩) (by kernel_rfl) rfl (by kernel_rfl) (fun K hK => ?_)
              go_simp
              refine hK.out _ _ ?_
              clear hK K
              try (simp only [Act.put, List.setIfInBounds_toArray, List.set_cons_zero, List.set_cons_succ])
              refine wpAnyV_done (by kernel_rfl) ?_ _
              refine NoPanic.normal ?_
              have ht := turned_setCell w9 g8 68 (.slice A9 (N8 + 1) c9)
              have hlw : w7.heap.size < (w7.drew.alloc (.cells ([.int .i32 x.ver, .slice X1 x.ins.length xc1, .slice X2 x.outs.length xc2, .int .u32 x.lock]).toArray 54)).heap.size := by simp
              have hs9 := hG9.size
              have hsz9 := ht.size
              have hbz : (w9.setCell ⟨g8, 68, none⟩ (.slice A9 (N8 + 1) c9)).heap[b]? = w7.drew.heap[b]? :=
                (ht.block b (by omega)).trans ((hG9.block b (by omega) (fun e => by have := hlo9.out _ e.symm; omega)).trans ((World.grownBy_alloc w7.drew (.cells ([.int .i32 x.ver, .slice X1 x.ins.length xc1, .slice X2 x.outs.length xc2, .int .u32 x.lock]).toArray 54) none).block b (by omega) (by simp)))
              have hRz := Rd.blk (rd_cutA hR7d N hNl hm1 |> fun h => by rw [ho7] at h; exact h) hbz
              rw [nums_drop] at hRz
              have h8z := blk_set h89 68 (.slice A9 (N8 + 1) c9)
              rw [blkCells_set hok] at h8z
              have gzz := ht.keep (heap_grown hG9 (blk_alloc gz7d (.cells ([.int .i32 x.ver, .slice X1 x.ins.length xc1, .slice X2 x.outs.length xc2, .int .u32 x.lock]).toArray 54)) (fun e => by have := hlo9.out _ e.symm; omega)) (by omega)
              have hl9 := hO9.lt
              have hOz : txK.Own (fun q => w5.heap.size ≤ q ∧ some q ≠ (Value.slice A9 (N8 + 1) c9).ownBlock) (w9.setCell ⟨g8, 68, none⟩ (.slice A9 (N8 + 1) c9)) w5.heap.size 54 (.slice A9 (N8 + 1) c9) (N8 + 1) (us ++ [x]) :=
                (hO9.kept ht.grown (Or.inr (fun e => by have := (hl9 _ e).1; omega)) (fun q hq e => by have := hq.1; obtain rfl := Option.some.inj e; omega)).mono_ (fun q hq => ⟨hq.1, fun e => by
                  rcases hx9 with hx | hx
                  · exact hq.2.2 (e.trans hx)
                  · have := Option.some.inj (e.trans hx); have := hq.2.1; omega⟩)
              have hBz : Below w.heap.size w (w9.setCell ⟨g8, 68, none⟩ (.slice A9 (N8 + 1) c9)) := ht.below ((hB7d.alloc hB7d.size _).grown hG9 (by have := hB7d.size; omega) (fun q e => by have := hlo9.out q e; omega)) (by omega)
              have hszz : w5.heap.size ≤ (w9.setCell ⟨g8, 68, none⟩ (.slice A9 (N8 + 1) c9)).heap.size := by omega
              clear hHeld hq1 hq2 hO9 hG9 hx9 h89 f9 hO7d hK7d h87d gz7d hR7d hB7d hbz hl9 ht cT r10 hH9
              go_wp2
              go_roundw
              case rel => exact ⟨j + 1, m2 - N, d - N, o7, A9, N8 + 1, c9, us ++ [x], rest.drop N, by omega, by go_num, rfl, by omega, by unfold maxLen at hm2 ⊢; omega, hRz, HNB, h8z, hOz, HTS2, by omega, gzz, hszz, hBz⟩
              case measure => simp [intOf]; omega
            · have hZ := hZ6 hE
              subst hZ
              unfold txZero
              have hEq : (decE rest == 0) = false := beq_eq_false_iff_ne.2 hE
              have HD : Hid (decBk bs = none) := Lib.hid (HE2.out.1 (by rw [HTS.out, if_neg hE]; rfl))
              rw [if_neg hE]
              clear hK6 hZ6 hO6 hO hE h8 gz hRr hB hb6 HT HTS hrd
              go_upto_region 14 with fail
              refine wp_gen (q := fun wi => Below w6.heap.size w6 wi) ((Below.refl _ _).alloc (Nat.le_refl _) _) (fun w7 hb7 => ?_)
              have gz7 := heap_below hb7 gz6
              have hB7 := below_then hB6 hB6.size hb7
              go_wp2_with (first | ((with_reducible refine wpList_atS 2 ?_); refine wpList_store_any rfl 49 (.tmp 2) (.tmp 57) rfl w.heap.size (blkCells hd0 none 0 0).toArray rfl rfl 49 (blkCells hd0 none 0 0).toArray gz7 (info_blkA hd0_ok none 0 0) rfl (blkCells_all hd0 none 0 0) ?_; intro wE hE htE))
              exact bodyPost_ret (results_cell_tmp rfl _ _ w.heap.size 49 (blkCells hd0 none 0 0).toArray (0, 0) _ rfl hE Tryd.underlying49 rfl (info_blkA hd0_ok none 0 0)) rfl ⟨(fun _ => rfl), (fun x hx => by rw [HD.out] at hx; cases hx), htE.below hB7 (Nat.le_refl _)⟩
          · have hlt' : ¬ (j : Int) < (m : Int) := by omega
            have hjm : j = m := by omega
            have HTE : Hid (decTs m rest0 = some (us, rest)) := Lib.hid (by rw [HT.out, hjm, Nat.sub_self, decTs]; simp)
            have HDE := Lib.hid (HE2.out.2 us rest HTE.out)
            have hrl : rest.length = m2 := by have := hRr.1; rwa [nums_length] at this
            by_cases hm0 : 0 < m2
            · have hm0' : (0 : Int) < (m2 : Int) := by omega
              have HD : Hid (decBk bs = none) := Lib.hid (by rw [HDE.out, if_neg (fun h => by rw [h] at hrl; simp at hrl; omega)])
              clear hO h8 hRr hrl
              go_wp2_with (first | ((with_reducible refine wpList_atS 2 ?_); refine wpList_store_any rfl 49 (.tmp 2) (.tmp 71) rfl w.heap.size (blkCells hd0 none 0 0).toArray rfl rfl 49 (blkCells hd0 none 0 0).toArray gz (info_blkA hd0_ok none 0 0) rfl (blkCells_all hd0 none 0 0) ?_; intro wE hE htE))
              exact bodyPost_ret (results_cell_tmp rfl _ _ w.heap.size 49 (blkCells hd0 none 0 0).toArray (0, 0) _ rfl hE Tryd.underlying49 rfl (info_blkA hd0_ok none 0 0)) rfl ⟨(fun _ => rfl), (fun x hx => by rw [HD.out] at hx; cases hx), htE.below hB (Nat.le_refl _)⟩
            · have hm0' : ¬ (0 : Int) < (m2 : Int) := by omega
              have HD : Hid (decBk bs = some ⟨hh, us⟩) := Lib.hid (by rw [HDE.out, if_pos (List.eq_nil_of_length_eq_zero (by omega))])
              have hle := hO.le_
              have hCr : txK.C (fun q => w5.heap.size ≤ q) wr A8 N8 us := hO.C_ (fun q h => h.1) (fun q e => (hO.lt q e).1)
              clear hO hRr hrl
              go_wp2_with (first
                | ((with_reducible refine wpList_at 72 ?_); refine wpList_load_row rfl 49 (.tmp 8) rfl g8 rfl 49 _ _ _ h8 hUB rfl (info_blkA hok A8 N8 c8) ?_)
                | ((with_reducible refine wpList_atS 2 ?_); refine wpList_store_any rfl 49 (.tmp 2) (.tmp 72) rfl w.heap.size (blkCells hh A8 N8 c8).toArray rfl rfl 49 (blkCells hd0 none 0 0).toArray gz (info_blkA hok A8 N8 c8) (by rw [List.size_toArray, List.size_toArray, blkCells_length hok, blkCells_length hd0_ok]) (blkCells_all hh A8 N8 c8) ?_; intro wE hE htE))
              refine bodyPost_ret (results_cell_tmp rfl _ _ w.heap.size 49 (blkCells hh A8 N8 c8).toArray (0, 0) _ rfl hE Tryd.underlying49 rfl (info_blkA hok A8 N8 c8)) rfl ⟨(fun h => by rw [HD.out] at h; cases h), (fun x hx => ?_), htE.below hB (Nat.le_refl _)⟩
              rw [HD.out] at hx
              obtain rfl := Option.some.inj hx
              refine ⟨blkCells hh A8 N8 c8, rfl, A8, N8, c8, rfl, hok, hle.1, hle.2, ?_⟩
              exact (hCr.move (fun q hq _ => htE.block q (by omega))).mono (fun q hq => by omega)
    · have hEr : (er == 0) = false := beq_eq_false_iff_ne.2 he
      have HD : Hid (decBk bs = none) := Lib.hid (decBk_bad H80.out (.inl (by rw [HX.out]; exact he)))
      go_wp2_with (first | ((with_reducible refine wpList_atS 2 ?_); refine wpList_store_any rfl 49 (.tmp 2) (.tmp 38) rfl w.heap.size (blkCells hd0 none 0 0).toArray rfl rfl 49 (blkCells hd0 none 0 0).toArray g3 (info_blkA hd0_ok none 0 0) rfl (blkCells_all hd0 none 0 0) ?_; intro wE hE htE))
      exact bodyPost_ret (results_cell_tmp rfl _ _ w.heap.size 49 (blkCells hd0 none 0 0).toArray (0, 0) _ rfl hE Tryd.underlying49 rfl (info_blkA hd0_ok none 0 0)) rfl ⟨(fun _ => rfl), (fun x hx => by rw [HD.out] at hx; cases hx), htE.below hB3 (Nat.le_refl _)⟩
end Go.Proofs.YtclkgflficlmiaaDoor
