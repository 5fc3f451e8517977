/- tailraceref03.Tables.Sum: what it hands back, with the right tables. -/
import Derived.Test.YtjlkakggmfmfiaaDoorRefB4
import Derived.Test.YtjlkakggmfmfiaaDoorRefB12
set_option maxRecDepth 100000
set_option linter.unusedVariables false
namespace Go.Proofs.YtjlkakggmfmfiaaDoor
open Go Go.RowKit
theorem info_a32 : (Tryd.prog.info? 24).map (·.size) = some 32 := by kernel_rfl
theorem info_z24 : (Tryd.prog.info? 24).map (·.size) = some (nums .u8 zeros32R).toArray.size := by rw [nums_size]; exact info_a32
def lenV' : Value → Nat
  | .slice _ n _ => n
  | _ => 0
set_option maxHeartbeats 4000000 in
theorem refsum_calls (A : Option Addr) (n c : Nat) (bs : List Int) (w : World) (hn : n ≤ 100000) (hbs : Bytes bs) (hr : Rd w A n (nums .u8 bs)) :
    Calls Tryd.prog 24 #[.agg (nums .u32 tabs72).toArray, .slice A n c] w fun e w' => e = .returned (.agg (nums .u8 (sumF bs)).toArray) ∧ Below w.heap.size w w' := by
  have hl : bs.length = n := by have := hr.1; rwa [nums_length] at this
  have hpb := pad_bytes bs hbs
  have hI0 : RefInv w ((w.alloc (.cells (nums .u32 tabs72).toArray 31)).alloc (.cells (nums .u8 zeros32R).toArray 24)) :=
    ⟨((Below.refl _ _).alloc (Nat.le_refl _) _).alloc (by simp) _, by simp, heap_alloc2_old _ _ _, heap_alloc2_new _ _ _⟩
  go_enter Tryd.func24, Tryd.ntmps24
  go_upto_region 1 with fail
  refine wp_gen (q := RefInv w) hI0 (fun wi hI0 => ?_)
  have hIs := hI0.size
  have hr0 := hr.below hI0.below
  go_upto_region 2 with (first | (refine wpList_app _ rfl (.tmp 31) (.tmp 32) 22 rfl (w.heap.size + 2) 5 _ 1 Tryd.underlying22 info8 rfl _ 0 [] rfl (own_new [] hIs (by decide)) A n c (nums .u8 bs) rfl (hr0.alloc _) (nums_one _ _) (by unfold maxLen; omega) (by omega) (by simp; omega) ?_; intro A1 c1 w1 hown1 hgrow1 hat1))
  have hI1 := (hI0.alloc _).app (own_new [] hIs (by decide)) hgrow1
  simp only [Nat.zero_add, List.nil_append] at hown1
  clear hgrow1 hat1 hr0 hIs hI0
  go_upto_region 3 with (first | (refine wpList_app _ rfl (.tmp 34) (.tmp 35) 22 rfl (w.heap.size + 2) 5 _ 1 Tryd.underlying22 info8 rfl _ n (nums .u8 bs) rfl (hown1.alloc _) _ 1 1 [.int .u8 128] rfl (Rd.of_block0 (heap_alloc_new _ _)) (nums_one .u8 [128]) (by unfold maxLen; omega) (by omega) (by have := hI1.size; simp; omega) ?_; intro A2 c2 w2 hown2 hgrow2 hat2))
  have hI2 := (hI1.alloc _).app (hown1.alloc _) hgrow2
  clear hgrow2 hat2 hown1 hI1
  go_loopw [5] (fun v wr => ∃ (j : Nat) (A' : Option Addr) (c' : Nat), j ≤ padz n ∧ v = .slice A' (n + 1 + j) c' ∧ RefInv w wr ∧ wr.ownsRow (w.heap.size + 2) 5 1 v (n + 1 + j) (nums .u8 (bs ++ 128 :: List.replicate j 0))) (fun v _ => n + 65 - lenV' v)
  case atStart => exact ⟨0, A2, c2, by omega, rfl, hI2, by simpa [nums] using hown2⟩
  case round =>
    obtain ⟨j, A', c', hj, rfl, hI, hown⟩ := hrel
    have hpz := padz_lt n
    by_cases hlt : j < padz n
    · as_aux_lemma =>
      have hcmp : (((n : Int) + 1 + j) % 64 != 56) = true := by rw [bne_iff_ne]; unfold padz at hlt; omega
      go_upto_region 4 with fail
      go_wp2_with (first | (refine wpList_app _ rfl (.tmp 41) (.tmp 42) 22 rfl (w.heap.size + 2) 5 _ 1 Tryd.underlying22 info8 rfl _ (n + 1 + j) (nums .u8 (bs ++ 128 :: List.replicate j 0)) rfl (hown.alloc _) _ 1 1 [.int .u8 0] rfl (Rd.of_block0 (heap_alloc_new _ _)) (nums_one .u8 [0]) (by unfold maxLen; omega) (by omega) (by have := hI.size; simp; omega) ?_; intro A3 c3 w3 hown3 hgrow3 hat3))
      go_roundw
      case rel =>
        refine ⟨j + 1, A3, c3, by omega, rfl, (hI.alloc _).app (hown.alloc _) hgrow3, ?_⟩
        have e : nums .u8 (bs ++ 128 :: List.replicate j 0) ++ [Value.int .u8 0] = nums .u8 (bs ++ 128 :: List.replicate (j + 1) 0) := by
          rw [List.replicate_succ', ← List.cons_append, ← List.append_assoc, nums_append (xs := bs ++ 128 :: List.replicate j 0)]
          rfl
        rwa [e] at hown3
      case measure => simp [lenV']; omega
    · as_aux_lemma =>
      have hcmp : (((n : Int) + 1 + j) % 64 != 56) = false := by rw [bne_eq_false_iff_eq]; unfold padz at hlt hj; omega
      obtain rfl : j = padz n := by omega
      clear hlt hj hI2 hown2
      go_upto_region 8 with fail
      have hIw := hI.alloc (.cells #[] 5)
      have hT0 : (wr.alloc (.cells #[] 5)).ownsRow (w.heap.size + 2) 5 1 (.slice (some ⟨wr.heap.size, 0, none⟩) 0 0) 0 (nums .u8 []) := own_new [] hI.size (by decide)
      have hm0 := hown.alloc (.cells #[] 5)
      have hb0 : (8 * (n : Int)) = ((bitsF n / 2 ^ (8 * 0) : Nat) : Int) := by unfold bitsF; omega
      clear hown hI hcmp
      go_loopw [6, 7, 8] (fun v6 v7 v8 wr => ∃ (i : Nat) (At : Option Addr) (ct : Nat), i ≤ 8 ∧ v6 = .int .u64 (bitsF n / 2 ^ (8 * i) : Nat) ∧ v7 = .slice At i ct ∧ v8 = .int .i64 i ∧ RefInv w wr ∧
        wr.ownsRow (w.heap.size + 2) 5 1 v7 i (nums .u8 ((be8 n).drop (8 - i))) ∧ wr.ownsRow (w.heap.size + 2) 5 1 (.slice A' (n + 1 + padz n) c') (n + 1 + padz n) (nums .u8 (bs ++ 128 :: List.replicate (padz n) 0))) (fun _ _ i _ => (8 - intOf i).toNat)
      case atStart => exact ⟨0, _, _, by omega, by rw [hb0], rfl, rfl, hIw, hT0, hm0⟩
      case round =>
        clear hIw hT0 hm0 hb0
        obtain ⟨i, At, ct, hi, rfl, rfl, rfl, hI, hownT, hm⟩ := hrel
        have hx : ∃ x, x = bitsF n / 2 ^ (8 * i) := ⟨_, rfl⟩
        obtain ⟨x, hx⟩ := hx
        have hbig : bitsF n < 18446744073709551616 := by unfold bitsF; omega
        have hxl : x < 18446744073709551616 := by rw [hx]; exact Nat.lt_of_le_of_lt (Nat.div_le_self _ _) hbig
        have hxn : bitsF n / 2 ^ (8 * (i + 1)) = x / 256 := by rw [hx, Nat.div_div_eq_div_mul, show 8 * (i + 1) = 8 * i + 8 by omega, Nat.pow_add]
        have hby : byteF n i = ((x % 256 : Nat) : Int) := by rw [hx]; rfl
        rw [← hx]
        have HB := Lib.hid hby
        have HN := Lib.hid hxn
        clear hx hbig hxn hby
        by_cases hi8 : i < 8
        · as_aux_lemma =>
          go_upto_region 10 with fail
          go_upto_region 11 with (first | (refine wpList_app _ rfl (.tmp 56) (.tmp 57) 22 rfl (w.heap.size + 2) 5 _ 1 Tryd.underlying22 info8 rfl _ 1 [.int .u8 ((x : Int) % 256)] rfl (own_new [.int .u8 ((x : Int) % 256)] hI.size (by simp [maxLen])) At i ct (nums .u8 ((be8 n).drop (8 - i))) rfl (Rd.of_own (hownT.alloc _)) (nums_one _ _) (by unfold maxLen; omega) (by omega) (by have := hI.size; simp; omega) ?_; intro A3 c3 w3 hown3 hgrow3 hat3))
          have hbel := below_grown hgrow3
          have hI3 := hI.then_ hbel
          have hm3 := own_below hm hbel
          have eb : [Value.int .u8 ((x : Int) % 256)] ++ nums .u8 ((be8 n).drop (8 - i)) = nums .u8 ((be8 n).drop (8 - (i + 1))) := by
            rw [be8_drop n i hi8, HB.out]
            simp [nums]
          rw [eb, Nat.add_comm 1 i] at hown3
          clear hbel hgrow3 hat3 eb
          go_wp2
          go_roundw
          case rel => exact ⟨i + 1, A3, c3, by omega, by rw [HN.out]; simp, by rw [Nat.add_comm 1 i], by go_num, hI3, by rw [Nat.add_comm 1 i]; exact hown3, hm3⟩
          case measure => simp [intOf]; omega
        · as_aux_lemma =>
          obtain rfl : i = 8 := by omega
          have hlen : n + 1 + padz n + 8 = 64 * blocks n := padz_eq n
          have hpad : nums .u8 (bs ++ 128 :: List.replicate (padz n) 0) ++ nums .u8 ((be8 n).drop (8 - 8)) = nums .u8 (pad bs) := by
            rw [← nums_append, pad, hl]
            simp
          clear HB HN hxl
          go_upto_region 13 with (first | (refine wpList_app _ rfl (.tmp 61) (.tmp 62) 22 rfl (w.heap.size + 2) 5 _ 1 Tryd.underlying22 info8 rfl _ (n + 1 + padz n) (nums .u8 (bs ++ 128 :: List.replicate (padz n) 0)) rfl hm At 8 ct (nums .u8 ((be8 n).drop (8 - 8))) rfl (Rd.of_own hownT) (nums_one _ _) (by unfold maxLen; omega) (by omega) (by have := hI.size; omega) ?_; intro Am cm w4 hm4 hgrow4 hat4))
          as_aux_lemma =>
          have hI4 := hI.app hm hgrow4
          rw [hpad] at hm4
          clear hgrow4 hat4 hpad hI hm hownT
          obtain ⟨gm, capm, hvm, hgm, _⟩ := hm4.form (by omega)
          obtain ⟨rfl, rfl⟩ : Am = some ⟨gm, 0, none⟩ ∧ cm = capm := by injection hvm with e1 e2 e3; exact ⟨e1, e3⟩
          clear hvm
          have hrange : w4.rangeAt w.heap.size 0 (nums .u32 first8.list) := range_nums hI4.b0 (by intro j hj; simp only [Nat.zero_add, tabs72]; exact rd_append_left _ _ _ hj) (by decide)
          have hg9 := heap_alloc_new w4 (.cells zero8 28)
          go_upto_region 14 with (first | (refine wpList_load_mid rfl 28 (.tmp 64) rfl w.heap.size 0 rfl _ _ hrange Tryd.underlying28 rfl (info_s8 first8) ?_) | (refine wpList_store_row rfl 28 (.tmp 9) (.tmp 65) rfl w4.heap.size first8.cells rfl rfl 28 _ hg9 (info_s8 _) rfl (S8.all _) ?_))
          as_aux_lemma =>
          have hI5 := (hI4.alloc (.cells zero8 28)).turned (turned_setRow _ w4.heap.size first8.cells) hI4.size
          have hm5 := (hm4.alloc (.cells zero8 28)).kept (grown_setRow _ w4.heap.size first8.cells) (.inr (fun e => own_blk_ne (hm4.alloc (.cells zero8 28)) hg9 (by decide) e.symm))
          have hb5 := setRow_heap _ _ _ first8.cells _ _ hg9
          have hg := hI4.size
          obtain ⟨g9, hgg⟩ : ∃ g9, g9 = w4.heap.size := ⟨_, rfl⟩
          rw [← hgg] at hI5 hm5 hb5 hg ⊢
          obtain ⟨N, hN⟩ : ∃ N, N = 64 * blocks n := ⟨_, rfl⟩
          rw [hlen, ← hN] at hm5
          rw [← hN]
          have hbl := blocks_le n
          have hNl : N ≤ 200000 := by omega
          have HNN := Lib.hid hN
          clear hN
          refine wp_gen (q := fun wr => RefInv w wr ∧ wr.ownsRow (w.heap.size + 2) 5 1 (.slice (some ⟨gm, 0, none⟩) N cm) N (nums .u8 (pad bs)) ∧ wr.heap[g9]? = some (.cells first8.cells 28)) ⟨hI5, hm5, hb5⟩ (fun w5 h5 => ?_)
          clear hI5 hm5 hb5 hgg hg9 hrange hI4 hm4 hlen
          obtain ⟨hI5, hm5, hb5⟩ := h5
          as_aux_lemma =>
          go_upto_block 4 with fail
          refine ref_b4 w w5 gm cm N g9 n bs hI5 hm5 hb5 hg hNl HNN hpb _ ?_
          clear hI5 hm5 hb5
          intro x10 x11 x12 x13 x14 x15 x16 x17 x18 x19 x20 x21 x22 x23 x24 x25 x26 x66 x67 x68 x69 x70 x71 x72 x73 x74 x75 x76 x77 x78 x79 x80 x81 x82 x83 x84 x85 x86 x87 x88 x89 x90 x91 x92 x93 x94 x95 x96 x97 x98 x99 x100 x101 x102 x103 x104 x105 x106 x107 x108 x109 x110 x111 x112 x113 x114 x115 x116 x117 x118 x119 x120 x121 x122 x123 x124 x125 x126 x127 x128 x129 x130 x131 x132 x133 x134 x135 x136 x137 x138 x139 x140 x141 x142 x143 x144 x145 x146 x147 x148 x149 x150 x151 x152 x153 x154 x155 x156 x157 x158 x159 x160 x161 x162 x163 x164 x165 x166 x167 x168 x169 x170 x171 x172 x173 x174 x175 x176 x177 x178 x179 x180 x181 x182 x183 x184 x185 x186 x187 x188 x189 x190 x191 x192 x193 x194 x195 x196 x197 x198 x199 x200 x201 x202 x203 x204 x205 x206 x207 x208 x209 x210 x211 x212 x213 x214 x215 x216 x217 x218 x219 x220 x221 x222 x223 x224 x225 x226 x227 x228 x229 x230 x231 x232 x233 x234 x235 x236 x237 x238 x239 x240 x241 x242 x243 x244 x245 x246 x247 x248 x249 x250 x251 x252 x253 x254 x255 x256 x257 x258 x259 x260 x261 x262 x263 x264 x265 x266 x267 x268 x269 x270 x271 x272 x273 x274 x275 x276 x277 x278 x279 x280 x281 x282 x283 x284 x285 x286 x287 x288 x289 x290 x291 x292 x293 x294 w6 hI6 hb6
          as_aux_lemma =>
          have hsum : outF (runN first8 (pad bs) (blocks n)) = sumF bs := by rw [← hl]; rfl
          have hokF : (runN first8 (pad bs) (blocks n)).Ok := runN_ok _ _
          obtain ⟨sF, hsF⟩ : ∃ sF, sF = runN first8 (pad bs) (blocks n) := ⟨_, rfl⟩
          rw [← hsF] at hb6 hsum hokF
          have HSUM := Lib.hid hsum
          clear hsum hsF
          have hI6s := hI6.size
          have hne : g9 ≠ w6.heap.size := Nat.ne_of_lt (heap_lt hb6)
          go_upto_block 12 with (first | (refine wpList_store_any rfl 24 (.tmp 27) (.tmp 295) rfl w6.heap.size (nums .u8 zeros32R).toArray rfl rfl 24 (nums .u8 zeros32R).toArray (heap_alloc_new _ _) info_z24 rfl (nums_all _ _) ?_; intro w6b h6b ht6b))
          have hI7 := (hI6.alloc (.cells (nums .u8 zeros32R).toArray 24)).turned ht6b hI6s
          have hb7 := ht6b.keep (blk_alloc hb6 (.cells (nums .u8 zeros32R).toArray 24)) hne
          clear hI6 hb6 ht6b
          as_aux_lemma =>
          refine ref_b12 w w6b g9 w6.heap.size sF hokF hI7 hI6s hne hb7 h6b _ ?_
          clear hI7 hb7 h6b
          intro x28 x29 x30 x296 x297 x298 x299 x300 x301 x302 x303 x304 x305 x306 x307 x308 x309 x310 x311 x312 x313 x314 x315 x316 w7 hI8 ho8
          as_aux_lemma =>
          rw [HSUM.out] at ho8
          have hb1 := hI8.b1
          have hls := sumF_length bs
          have hi24 : (Tryd.prog.info? 24).map (·.size) = some (nums .u8 (sumF bs)).toArray.size := by rw [nums_size, hls]; exact info_a32
          have hz24 : (nums .u8 zeros32R).toArray.size = (nums .u8 (sumF bs)).toArray.size := by rw [nums_size, nums_size, hls]; rfl
          go_wp2_with (first | (refine wpList_load_row rfl 24 (.tmp 27) rfl w6.heap.size rfl 24 _ _ _ ho8 Tryd.underlying24 rfl hi24 ?_) | (refine wpList_store_any rfl 24 (.tmp 4) (.tmp 317) rfl (w.heap.size + 1) (nums .u8 (sumF bs)).toArray rfl rfl 24 (nums .u8 zeros32R).toArray hb1 hi24 hz24 (nums_all _ _) ?_; intro w8 h8 ht8))
          refine bodyPost_ret (results_cell_row rfl _ _ (w.heap.size + 1) 24 (nums .u8 (sumF bs)).toArray (0, 0) _ rfl h8 Tryd.underlying24 rfl hi24) rfl ⟨rfl, ht8.below hI8.below (by omega)⟩
end Go.Proofs.YtjlkakggmfmfiaaDoor
