/- tailraceref03's long numbers: parts, times, over. -/
import Derived.Test.YtjlkakggmfmfiaaDoorChecked
import Derived.Test.YtjlkakggmfmfiaaDoorLongPure
import Derived.Test.YtjlkakggmfmfiaaDoorMore2
import Derived.Deep.DeepCutAuto
import Derived.KernelRfl
set_option maxRecDepth 100000
namespace Go.Proofs.YtjlkakggmfmfiaaDoor
open Go Go.RowKit
/-- A slice that lies at the start of a block of its own and reads as these whole numbers. -/
def Lies (w : World) (v : Value) (k : IntKind) (xs : List Int) : Prop := ∃ g c, v = .slice (some ⟨g, 0, none⟩) xs.length c ∧ ∀ i, i < xs.length → w.cell? ⟨g, i, none⟩ = some (.int k (rd xs i))
theorem Lies.below {w w' : World} {v : Value} {k : IntKind} {xs : List Int} (h : Lies w v k xs) (hb : Below w.heap.size w w') : Lies w' v k xs := by
  obtain ⟨g, c, hv, hc⟩ := h
  exact ⟨g, c, hv, fun i hi => cell_below hb (hc i hi)⟩
theorem lies_block {w : World} {g c : Nat} {t : TypeId} {fz : Nat × Nat} {k : IntKind} {xs : List Int} (h : w.heap[g]? = some (.cells (nums k xs).toArray t fz)) : Lies w (.slice (some ⟨g, 0, none⟩) xs.length c) k xs :=
  ⟨g, c, rfl, fun i hi => blk_num h i hi⟩
set_option maxHeartbeats 400000 in
theorem parts_calls (m : Int) (w : World) (h0 : 0 ≤ m) (h1 : m < 281474976710656) :
    Calls Tryd.prog 85 #[.int .u64 m] w fun e w' => ∃ v, e = .returned v ∧ Lies w' v .u64 [m % 65536, m / 65536 % 65536, m / 4294967296] ∧ Below w.heap.size w w' := by
  go_enter Tryd.func85, Tryd.ntmps85
  go_wp2
  go_ret
  exact ⟨_, rfl, lies_block (xs := [m % 65536, m / 65536 % 65536, m / 4294967296]) (heap_alloc_new _ _), (Below.refl _ _).alloc (Nat.le_refl _) _⟩
theorem info64 : (Tryd.prog.info? 56).map (fun i => (i.zero, i.size, i.bytes)) = some (some (.int .u64 0), 1, 8) := by kernel_rfl
set_option maxHeartbeats 1000000 in
theorem times_calls (ga ca gb cb : Nat) (a b : List Int) (w : World) (ha : Parts a) (hb : Parts b) (hla : 1 ≤ a.length) (hlb : 1 ≤ b.length) (hsum : a.length + b.length ≤ 1000)
    (hca : ∀ i, i < a.length → w.cell? ⟨ga, i, none⟩ = some (.int .u64 (rd a i))) (hcb : ∀ i, i < b.length → w.cell? ⟨gb, i, none⟩ = some (.int .u64 (rd b i))) :
    Calls Tryd.prog 84 #[.slice (some ⟨ga, 0, none⟩) a.length ca, .slice (some ⟨gb, 0, none⟩) b.length cb] w fun e w' => ∃ v xs, e = .returned v ∧ Lies w' v .u64 xs ∧ Below w.heap.size w w' ∧ xs.length = a.length + b.length ∧ Parts xs ∧ valN xs xs.length = valN a a.length * valN b b.length := by
  obtain ⟨la, hla'⟩ : ∃ la, la = a.length := ⟨_, rfl⟩
  obtain ⟨lb, hlb'⟩ : ∃ lb, lb = b.length := ⟨_, rfl⟩
  rw [← hla'] at hla hsum hca ⊢
  rw [← hlb'] at hlb hsum hcb ⊢
  have HLA := Lib.hid hla'
  have HLB := Lib.hid hlb'
  have HCA := Lib.hid hca
  have HCB := Lib.hid hcb
  clear hla' hlb' hca hcb
  go_enter Tryd.func84, Tryd.ntmps84
  obtain ⟨L, hL⟩ : ∃ L, L = la + lb := ⟨_, rfl⟩
  have ew : (la : Int) + (lb : Int) = (L : Int) := by omega
  have hmk := fun W => make_nums (P := Tryd.prog) W 177 56 .u64 8 Tryd.underlying177 info64 L (by omega) (by unfold maxLen; omega)
  have HL := Lib.hid hL
  have hll : L ≤ 1000 := by omega
  clear hL
  go_upto_region 2 with fail
  clear ew hmk
  have hg := heap_alloc_new w (.cells (nums .u64 (List.replicate L 0)).toArray 56)
  have hb0 : Below w.heap.size w (w.alloc (.cells (nums .u64 (List.replicate L 0)).toArray 56)) := (Below.refl _ _).alloc (Nat.le_refl _) _
  refine wp_gen (q := fun wr => Below w.heap.size w wr ∧ wr.heap[w.heap.size]? = some (.cells (nums .u64 (List.replicate L 0)).toArray 56)) ⟨hb0, hg⟩ (fun w5 h5 => ?_)
  clear hg hb0
  obtain ⟨hb5, hg5⟩ := h5
  go_wp2
  go_loopw [20] (fun v wr => ∃ (i : Nat) (out : List Int), i ≤ la ∧ v = .int .i64 i ∧ Hid (MulOut a b i out) ∧ Below w.heap.size w wr ∧ wr.heap[w.heap.size]? = some (.cells (nums .u64 out).toArray 56)) (fun v _ => (la - intOf v).toNat)
  case atStart => exact ⟨0, List.replicate L 0, by omega, rfl, Lib.hid (by rw [HL.out, HLA.out, HLB.out]; exact MulOut.start a b), hb5, hg5⟩
  case round =>
    clear hb5 hg5
    obtain ⟨i, out, hi, rfl, hout, hbel, hg⟩ := hrel
    by_cases hlt : i < la
    · have hlt' : (i : Int) < (la : Int) := by omega
      have hca := cell_below hbel (HCA.out i hlt)
      have hra := ha.rd i
      go_upto_region 6 with fail
      go_wp2
      go_loopw [8, 27] (fun v8 v27 wr => ∃ (k : Nat) (carry : Int) (out : List Int), k ≤ lb ∧ v27 = .int .i64 k ∧ v8 = .int .u64 carry ∧ Hid (MulIn a b i k carry out) ∧ Below w.heap.size w wr ∧ wr.heap[w.heap.size]? = some (.cells (nums .u64 out).toArray 56)) (fun _ v _ => (lb - intOf v).toNat)
      case atStart => exact ⟨0, 0, out, by omega, rfl, rfl, Lib.hid hout.out.in_, hbel, hg⟩
      case round =>
        clear hbel hg hca hout
        obtain ⟨k, carry, out, hk, rfl, rfl, hin, hbel, hg⟩ := hrel
        by_cases hkt : k < lb
        · have hkt' : (k : Int) < (lb : Int) := by omega
          have hcb := cell_below hbel (HCB.out k hkt)
          have hrb := hb.rd k
          have hlow := hin.out.low
          have hro := hin.out.parts.rd (i + k)
          have hlen : i + k < out.length := by rw [hin.out.len, ← HLA.out, ← HLB.out]; omega
          have hco := blk_num hg (i + k) hlen
          have hfo := blk_frozen hg (i + k)
          have hmul := mul_bound _ _ hra hrb
          have hin' := Lib.hid (hin.out.step ha hb (by rw [← HLA.out]; exact hlt) (by rw [← HLB.out]; exact hkt))
          obtain ⟨M, hM⟩ : ∃ M, M = rd a i * rd b k := ⟨_, rfl⟩
          have em : IntKind.u64.wrap (rd a i * rd b k) = M := by rw [hM]; exact IntWalk.u64_in _ (by omega)
          rw [← hM] at hmul hin'
          have HM := Lib.hid hM
          clear hM
          have hlL : i + k < L := by have := HL.out; omega
          have l1 : (i : Int) + (k : Int) < (L : Int) := by omega
          have z1 : 0 ≤ (i : Int) + (k : Int) := by omega
          have t1 : ((i : Int) + (k : Int)).toNat = i + k := by omega
          go_wp2
          go_roundw
          case rel =>
            refine ⟨k + 1, (rd out (i + k) + M + carry) / 65536, out.set (i + k) ((rd out (i + k) + M + carry) % 65536), by omega, by go_num, rfl, hin', hbel.setCell (Nat.le_refl _) _, ?_⟩
            have := blk_set hg (i + k) (.int .u64 ((rd out (i + k) + M + carry) % 65536))
            rwa [nums_setA] at this
          case measure => simp [intOf]; omega
        · obtain rfl : k = lb := by omega
          have hlow := hin.out.low
          have hk2 := hin
          rw [HLB.out] at hk2
          have hz := hin.out.zero (i + k) (by rw [HLB.out]; exact Nat.le_refl _)
          have hlen : i + k < out.length := by rw [hin.out.len, ← HLA.out, ← HLB.out]; omega
          have hco := blk_num hg (i + k) hlen
          rw [hz] at hco
          have hfo := blk_frozen hg (i + k)
          have hout' := hk2.out.out (by rw [← HLA.out]; exact hlt)
          rw [← HLB.out, hz, Int.zero_add] at hout'
          have HO := Lib.hid hout'
          have hlL : i + k < L := by have := HL.out; omega
          have l1 : (i : Int) + (k : Int) < (L : Int) := by omega
          have z1 : 0 ≤ (i : Int) + (k : Int) := by omega
          have t1 : ((i : Int) + (k : Int)).toNat = i + k := by omega
          clear hout' hk2 hz hkt
          go_wp2
          go_roundw
          case rel =>
            refine ⟨i + 1, out.set (i + k) carry, by omega, by go_num, HO, hbel.setCell (Nat.le_refl _) _, ?_⟩
            have := blk_set hg (i + k) (.int .u64 carry)
            rwa [nums_setA] at this
          case measure => simp [intOf]; omega
    · obtain rfl : i = la := by omega
      have hL2 : out.length = L := by rw [hout.out.len, HL.out, HLA.out, HLB.out]
      have hl1 : (.slice (some ⟨w.heap.size, 0, none⟩) L L : Value) = .slice (some ⟨w.heap.size, 0, none⟩) out.length L := by rw [hL2]
      have hli : Lies wr (.slice (some ⟨w.heap.size, 0, none⟩) L L) .u64 out := by rw [hl1]; exact lies_block hg
      have hval := hout.out.val
      have HV := Lib.hid hval
      have HL2 := Lib.hid hL2
      clear hval hL2 hl1
      go_wp2
      go_ret
      exact ⟨_, out, rfl, hli, hbel, by rw [HL2.out]; exact HL.out, hout.out.parts, by rw [HV.out, HLB.out]⟩
set_option maxHeartbeats 1000000 in
theorem over_calls (ga ca gb cb : Nat) (a b : List Int) (w : World) (ha : Parts a) (hb : Parts b) (hla : 1 ≤ a.length) (hlb : 1 ≤ b.length) (hla2 : a.length ≤ 1000) (hlb2 : b.length ≤ 1000)
    (hca : ∀ i, i < a.length → w.cell? ⟨ga, i, none⟩ = some (.int .u64 (rd a i))) (hcb : ∀ i, i < b.length → w.cell? ⟨gb, i, none⟩ = some (.int .u64 (rd b i))) :
    Calls Tryd.prog 86 #[.slice (some ⟨ga, 0, none⟩) a.length ca, .slice (some ⟨gb, 0, none⟩) b.length cb] w fun e w' => e = .returned (.bool (decide (valN b (max a.length b.length) < valN a (max a.length b.length)))) ∧ w = w' := by
  obtain ⟨la, hla'⟩ : ∃ la, la = a.length := ⟨_, rfl⟩
  obtain ⟨lb, hlb'⟩ : ∃ lb, lb = b.length := ⟨_, rfl⟩
  rw [← hla'] at hla hla2 hca ⊢
  rw [← hlb'] at hlb hlb2 hcb ⊢
  have HLA := Lib.hid hla'
  have HLB := Lib.hid hlb'
  have HCA := Lib.hid hca
  have HCB := Lib.hid hcb
  clear hla' hlb' hca hcb
  obtain ⟨m, hm⟩ : ∃ m, m = max la lb := ⟨_, rfl⟩
  rw [← hm]
  have em : max (la : Int) (lb : Int) = (m : Int) := by omega
  have hm1 : la ≤ m := by omega
  have hm2 : lb ≤ m := by omega
  have hm3 : m = la ∨ m = lb := by omega
  have HM3 := Lib.hid hm3
  clear hm hm3
  go_enter Tryd.func86, Tryd.ntmps86
  go_upto_region 3 with fail
  clear em
  go_loopw [6] (fun v wr => ∃ (t : Nat), t ≤ m ∧ v = .int .i64 ((t : Int) - 1) ∧ Hid (∀ j, t ≤ j → j < m → rd a j = rd b j) ∧ w = wr) (fun v _ => (intOf v + 1).toNat)
  case atStart => exact ⟨m, Nat.le_refl _, rfl, Lib.hid (fun j h1 h2 => by omega), rfl⟩
  case round =>
    obtain ⟨t, ht, rfl, heq, rfl⟩ := hrel
    cases t with
    | zero =>
      have hv : valN b m = valN a m := valN_ext _ _ _ (fun j hj => (heq.out j (by omega) hj).symm)
      have HD := Lib.hid (show false = decide (valN b m < valN a m) from (decide_eq_false (by omega)).symm)
      clear hv heq
      rw [show ((0 : Nat) : Int) - 1 = -1 from rfl]
      go_wp2
      go_ret
      exact ⟨by rw [← HD.out]; rfl, rfl⟩
    | succ i =>
      have ei : ((i + 1 : Nat) : Int) - 1 = (i : Int) := by omega
      rw [ei]
      have heqs := heq.out
      have him : i < m := by omega
      have hnext : rd a i = rd b i → Hid (∀ j, i ≤ j → j < m → rd a j = rd b j) := fun h => Lib.hid (fun j h1 h2 => by
        rcases Nat.lt_or_ge i j with hl | hl
        · exact heqs j hl h2
        · obtain rfl : j = i := by omega
          exact h)
      have hdone : rd a i ≠ rd b i → Hid (decide (rd b i < rd a i) = decide (valN b m < valN a m)) := fun h => Lib.hid (over_eq ha hb i m him heqs h)
      clear heq heqs ei
      by_cases h1 : i < la
      · have h1' : (i : Int) < (la : Int) := by omega
        have ca1 := HCA.out i h1
        by_cases h2 : i < lb
        · have h2' : (i : Int) < (lb : Int) := by omega
          have cb1 := HCB.out i h2
          by_cases hxy : rd a i = rd b i
          · have HNx := hnext hxy
            have hx2 : (rd a i != rd b i) = false := by rw [bne_eq_false_iff_eq]; exact hxy
            clear hnext hdone hxy
            go_wp2
            go_roundw
            case rel => exact ⟨i, by omega, rfl, HNx, trivial⟩
            case measure => first | (simp [intOf]; done) | (simp [intOf]; omega)
          · have HD := hdone hxy
            have hx2 : (rd a i != rd b i) = true := by rw [bne_iff_ne]; exact hxy
            clear hnext hdone hxy
            go_wp2
            go_ret
            exact ⟨by rw [← HD.out]; rfl, rfl⟩
        · have hb0 : rd b i = 0 := rd_beyond _ _ (by rw [← HLB.out]; omega)
          rw [hb0] at hnext hdone
          by_cases hxy : rd a i = 0
          · have HNx := hnext hxy
            have hx2 : (rd a i != 0) = false := by rw [bne_eq_false_iff_eq]; exact hxy
            clear hnext hdone hxy hb0
            go_wp2
            go_roundw
            case rel => exact ⟨i, by omega, rfl, HNx, trivial⟩
            case measure => first | (simp [intOf]; done) | (simp [intOf]; omega)
          · have HD := hdone hxy
            have hx2 : (rd a i != 0) = true := by rw [bne_iff_ne]; exact hxy
            clear hnext hdone hxy hb0
            go_wp2
            go_ret
            exact ⟨by rw [← HD.out]; rfl, rfl⟩
      · have ha0 : rd a i = 0 := rd_beyond _ _ (by rw [← HLA.out]; omega)
        rw [ha0] at hnext hdone
        have h2 : i < lb := by have := HM3.out; omega
        have h2' : (i : Int) < (lb : Int) := by omega
        have cb1 := HCB.out i h2
        by_cases hxy : 0 = rd b i
        · have HNx := hnext hxy
          have hx2 : ((0 : Int) != rd b i) = false := by rw [bne_eq_false_iff_eq]; exact hxy
          clear hnext hdone hxy ha0
          go_wp2
          go_roundw
          case rel => exact ⟨i, by omega, rfl, HNx, trivial⟩
          case measure => first | (simp [intOf]; done) | (simp [intOf]; omega)
        · have HD := hdone hxy
          have hx2 : ((0 : Int) != rd b i) = true := by rw [bne_iff_ne]; exact hxy
          clear hnext hdone hxy ha0
          go_wp2
          go_ret
          exact ⟨by rw [← HD.out]; rfl, rfl⟩
end Go.Proofs.YtjlkakggmfmfiaaDoor
