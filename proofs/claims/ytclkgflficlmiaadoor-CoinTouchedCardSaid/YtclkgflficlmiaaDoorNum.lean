/- Numbers laid and read, the lowest byte first: num.little, num.PutLittle, num.Little, and the reference's Little. -/
import Derived.Test.YtclkgflficlmiaaDoorBase
import Derived.IntWalk
import Derived.Deep.CutBlock
import Derived.Test.YtclkgflficlmiaaDoorChecked
set_option maxRecDepth 100000
set_option linter.unusedVariables false
namespace Go.Proofs.YtclkgflficlmiaaDoor
open Go Go.RowKit
theorem infoU8 : (Tryd.prog.info? 5).map (fun i => (i.zero, i.size, i.bytes)) = some (some (.int .u8 0), 1, 1) := by kernel_rfl
/-- Bytes have been appended to a row of the call's own. -/
def AppPost (w : World) (base : Nat) (v : Value) (N : Nat) (zs : List Int) (e : Ending) (w' : World) : Prop :=
  ∃ A c, e = .returned (.slice A N c) ∧ w'.ownsRow base 5 1 (.slice A N c) N (nums .u8 zs) ∧ w.grownBy w' v.ownBlock ∧ ((Value.slice A N c).ownBlock = v.ownBlock ∨ ∃ g, (Value.slice A N c).ownBlock = some g ∧ w.heap.size ≤ g)
theorem grown_chain {w w1 w2 : World} {r r1 : Option Nat} (h : w.grownBy w1 r) (hr : r1 = r ∨ ∃ g, r1 = some g ∧ w.heap.size ≤ g) (k : w1.grownBy w2 r1) : w.grownBy w2 r :=
  ⟨k.os.trans h.os, k.tape.trans h.tape, k.output.trans h.output, Nat.le_trans h.size k.size, fun q hq hne => (k.block q (Nat.lt_of_lt_of_le hq h.size) (fun e => by
    rcases hr with h' | ⟨g, h', h2⟩
    · exact hne (e.trans h')
    · rw [h'] at e; injection e with e; omega)).trans (h.block q hq hne)⟩
theorem own_chain {n1 n0 : Nat} {r r1 r2 : Option Nat} (hr : r1 = r ∨ ∃ g, r1 = some g ∧ n0 ≤ g) (hs : n0 ≤ n1) (k : r2 = r1 ∨ ∃ g, r2 = some g ∧ n1 ≤ g) : r2 = r ∨ ∃ g, r2 = some g ∧ n0 ≤ g := by
  rcases k with k | ⟨g, k, h⟩
  · rcases hr with h' | ⟨g, h', h2⟩
    · exact .inl (k.trans h')
    · exact .inr ⟨g, k.trans h', h2⟩
  · exact .inr ⟨g, k, by omega⟩
theorem own_chain1 {n1 n0 : Nat} {r r1 r2 : Option Nat} (hr : r1 = r ∨ ∃ g, r1 = some g ∧ n0 ≤ g) (hs : n0 ≤ n1) (k : r2 = r1 ∨ r2 = some n1) : r2 = r ∨ ∃ g, r2 = some g ∧ n0 ≤ g :=
  own_chain hr hs (k.imp id fun h => ⟨n1, h, Nat.le_refl _⟩)
theorem cell_grown {w w1 : World} {row : Option Nat} (h : w.grownBy w1 row) {b i : Nat} {v : Value} (hc : w.cell? ⟨b, i, none⟩ = some v) (hne : some b ≠ row) : w1.cell? ⟨b, i, none⟩ = some v :=
  (cell_move (h.block b (World.block_lt_of_cell? w _ hc) hne)).trans hc
set_option maxHeartbeats 1000000 in
theorem little_calls (w : World) (base : Nat) (A : Option Addr) (n c : Nat) (xs : List Int) (x s : Nat) (hx : x < 18446744073709551616) (hs : s ≤ 8) (hn : n ≤ 1000000000000) (hb : base ≤ w.heap.size) (hown : w.ownsRow base 5 1 (.slice A n c) n (nums .u8 xs)) (sz : Int) (hsz : sz = (s : Int)) (xz : Int) (hxz : xz = (x : Int)) :
    Calls Tryd.prog 77 #[.slice A n c, .int .u64 xz, .int .i64 sz] w (AppPost w base (.slice A n c) (n + s) (xs ++ leF s x)) := by
  subst hsz
  subst hxz
  have hlo : Hid (∀ q, (Value.slice A n c).ownBlock = some q → base ≤ q ∧ q < w.heap.size) := Lib.hid fun q hq => ⟨own_base hown q hq, (hown.lt q hq).2⟩
  have HX := Lib.hid hx
  have h0 : w.ownsRow base 5 1 (.slice A (n + 0) c) (n + 0) (nums .u8 (xs ++ leF 0 x)) := by rw [leF_zero, List.append_nil]; exact hown
  have hg0 := World.grownBy.refl w (Value.slice A n c).ownBlock
  clear hown hx
  go_enter Tryd.func77, Tryd.ntmps77
  go_wp2
  go_loopw [0, 1, 8] (fun v0 v1 v8 wr => ∃ (k : Nat) (A1 : Option Addr) (c1 y : Nat), k ≤ s ∧ v8 = .int .i64 k ∧ v1 = .int .u64 y ∧ Hid (y = x / 256 ^ k) ∧ Hid (y < 18446744073709551616) ∧ v0 = .slice A1 (n + k) c1 ∧ wr.ownsRow base 5 1 (.slice A1 (n + k) c1) (n + k) (nums .u8 (xs ++ leF k x)) ∧ w.grownBy wr (Value.slice A n c).ownBlock ∧
    Hid ((Value.slice A1 (n + k) c1).ownBlock = (Value.slice A n c).ownBlock ∨ ∃ g, (Value.slice A1 (n + k) c1).ownBlock = some g ∧ w.heap.size ≤ g)) (fun _ _ v _ => s - (intOf v).toNat)
  case atStart => exact ⟨0, A, c, x, by omega, rfl, rfl, Lib.hid (by simp), HX, rfl, h0, hg0, Lib.hid (.inl rfl)⟩
  case round =>
    clear h0 hg0
    obtain ⟨k, A1, c1, y, hk, rfl, rfl, HY, HYB, rfl, hO, hg, HO⟩ := hrel
    by_cases hlt : k < s
    · have hlt' : (k : Int) < (s : Int) := by omega
      have hk0 : (0 : Int) ≤ (k : Int) := by omega
      have hws := hg.size
      have hym : ((y : Int) % 256) = ((y % 256 : Nat) : Int) := by omega
      have HZ : Hid (nums .u8 (xs ++ leF k x) ++ nums .u8 [(y : Int) % 256] = nums .u8 (xs ++ leF (k + 1) x)) := Lib.hid (by rw [leF_succ, ← nums_append, List.append_assoc, hym, HY.out])
      have hOa := World.ownsRow.alloc hO (.cells #[.int .u8 ((y : Int) % 256)] 5)
      have hBa : w.grownBy (wr.alloc (.cells #[.int .u8 ((y : Int) % 256)] 5)) (Value.slice A n c).ownBlock := grown_trans hg (grown_of_below ((Below.refl _ _).alloc (Nat.le_refl _) _) _)
      clear hym hO hg
      go_upto_region 4 with (first | (refine wpList_appN rfl (.tmp 10) (.tmp 13) 22 rfl base 5 _ 1 Tryd.underlying22 infoU8 rfl (.slice A1 (n + k) c1) (n + k) (nums .u8 (xs ++ leF k x)) rfl hOa (some ⟨wr.heap.size, 0, none⟩) 1 1 (nums .u8 [(y : Int) % 256]) rfl (Rd.of_block0 (heap_alloc_new _ _)) (nums_one _ _) (n + k + 1) (nums .u8 (xs ++ leF (k + 1) x)) rfl HZ.out (by unfold maxLen; omega) (by omega) (by simp; omega) ?_; intro A3 c3 w3 hO3 hg3 hat3))
      have hg4 : w.grownBy w3 (Value.slice A n c).ownBlock := ⟨hg3.os.trans hBa.os, hg3.tape.trans hBa.tape, hg3.output.trans hBa.output, Nat.le_trans hBa.size hg3.size, fun q hq hne => (hg3.block q (Nat.lt_of_lt_of_le hq hBa.size) (fun e => by
        rcases HO.out with h | ⟨g, h, h2⟩
        · exact hne (e.trans h)
        · rw [h] at e; injection e with e; omega)).trans (hBa.block q hq hne)⟩
      have HO4 : Hid ((Value.slice A3 (n + k + 1) c3).ownBlock = (Value.slice A n c).ownBlock ∨ ∃ g, (Value.slice A3 (n + k + 1) c3).ownBlock = some g ∧ w.heap.size ≤ g) := Lib.hid (by
        rcases hat3 with h | h
        · rcases HO.out with h' | ⟨g, h', h2⟩
          · exact .inl (h.trans h')
          · exact .inr ⟨g, h.trans h', h2⟩
        · exact .inr ⟨_, h, by simp; omega⟩)
      have HY2 : Hid (y / 256 = x / 256 ^ (k + 1)) := Lib.hid (by rw [HY.out, div256])
      have HYB2 : Hid (y / 256 < 18446744073709551616) := Lib.hid (by have := HYB.out; omega)
      clear hg3 hat3 hOa hBa
      go_wp2
      go_roundw
      case rel => exact ⟨k + 1, A3, c3, y / 256, by omega, by go_num, by go_num, HY2, HYB2, rfl, hO3, hg4, HO4⟩
      case measure => simp [intOf]; omega
    · have hlt' : ¬ (k : Int) < (s : Int) := by omega
      obtain rfl : k = s := by omega
      go_wp2
      go_ret
      exact ⟨A1, c1, rfl, hO, hg, HO.out⟩
set_option maxHeartbeats 1000000 in
theorem put_calls (w : World) (base : Nat) (A : Option Addr) (n c : Nat) (xs : List Int) (x s : Nat) (hx : x < 18446744073709551616) (hs : s ≤ 8) (hn : n ≤ 1000000000000) (hb : base ≤ w.heap.size) (hown : w.ownsRow base 5 1 (.slice A n c) n (nums .u8 xs)) (sz : Int) (hsz : sz = (s : Int)) (xz : Int) (hxz : xz = (x : Int)) (N : Nat) (zs : List Int) (hN : n + s = N) (hzs : xs ++ leF s x = zs) :
    Calls Tryd.prog 54 #[.slice A n c, .int .u64 xz, .int .i64 sz] w (AppPost w base (.slice A n c) N zs) := by
  subst hN
  subst hzs
  subst hsz
  subst hxz
  have hm1 : min (s : Int) 8 = (s : Int) := by omega
  have hm2 : max 0 (s : Int) = (s : Int) := by omega
  have HX := Lib.hid hx
  clear hx
  go_enter Tryd.func54, Tryd.ntmps54
  go_wp2_with fail
  refine (little_calls w base A n c xs x s HX.out hs hn hb hown _ rfl _ rfl).mono ?_
  rintro e w' ⟨A', c', rfl, h1, h2, h3⟩
  go_wp2
  go_ret
  exact ⟨A', c', rfl, h1, h2, h3⟩
set_option maxHeartbeats 1000000 in
theorem lit_calls (w : World) (A : Option Addr) (n c : Nat) (bs : List Int) (hn : n ≤ 8) (hr : Rd w A n (nums .u8 bs)) (hbs : Bytes bs) :
    Calls Tryd.prog 55 #[.slice A n c] w fun e w' => e = .returned (.int .u64 (ofLE bs)) ∧ w = w' := by
  have hl : bs.length = n := by have := hr.1; rwa [nums_length] at this
  have hm1 : min (n : Int) 8 = (n : Int) := by omega
  have HL := Lib.hid hl
  clear hl
  go_enter Tryd.func55, Tryd.ntmps55
  go_wp2
  go_loop [3, 4] (fun v3 v4 => ∃ (k : Nat) (m : Int), k ≤ n ∧ v4 = .int .i64 ((k : Int) - 1) ∧ v3 = .int .u64 m ∧ Hid (m = ofLE (bs.drop k))) (fun _ v => (intOf v + 1).toNat)
  case atStart => exact ⟨n, 0, by omega, by go_num, rfl, Lib.hid (by rw [List.drop_eq_nil_of_le (by rw [HL.out]; exact Nat.le_refl _)]; rfl)⟩
  case round =>
    obtain ⟨k, m, hk, rfl, rfl, HM⟩ := hrel
    rcases k with _ | k
    · have h0 : ¬ (0 : Int) ≤ ((0 : Nat) : Int) - 1 := by omega
      have hf : ofLE bs = m := by rw [HM.out]; rfl
      have HF := Lib.hid hf
      clear hf
      go_wp2
      go_ret
      rw [HF.out]
      exact ⟨rfl, rfl⟩
    · have hkn : k < n := by omega
      obtain ⟨b, o, rfl, hcell⟩ := hr.at_ k hkn
      have hb := hbs.rd k
      have hrg := ofLE_range (bs.drop (k + 1)) (hbs.drop _)
      have hm : 0 ≤ m ∧ m < 72057594037927936 := by
        rw [HM.out]
        refine ⟨hrg.1, Int.lt_of_lt_of_le hrg.2 ?_⟩
        have hle : (bs.drop (k + 1)).length ≤ 7 := by rw [List.length_drop, HL.out]; omega
        have h1 : (256 : Nat) ^ (bs.drop (k + 1)).length ≤ 256 ^ 7 := Nat.pow_le_pow_right (by decide) hle
        have h2 : (256 : Int) ^ (bs.drop (k + 1)).length = ((256 ^ (bs.drop (k + 1)).length : Nat) : Int) := by rw [Int.natCast_pow]; rfl
        omega
      have hw : IntKind.u64.wrap (m * 256) = m * 256 := by rw [IntKind.wrap_u64]; omega
      have hor := u64_or256 m (rd bs k) hm.1 hm.2 hb.1 hb.2
      have HN : Hid (rd bs k + 256 * m = ofLE (bs.drop k)) := Lib.hid (by rw [ofLE_drop bs k (by rw [HL.out]; exact hkn), HM.out])
      have hk1 : ((k + 1 : Nat) : Int) - 1 = (k : Int) := by omega
      have hk0 : (0 : Int) ≤ (k : Int) := by omega
      have hkn' : (k : Int) < (n : Int) := by omega
      rw [hk1]
      clear hrg hm hk1
      go_wp2
      go_round
      case rel => exact ⟨k, _, by omega, rfl, rfl, HN⟩
      case measure => simp [intOf]
set_option maxHeartbeats 1000000 in
theorem reflit_calls (w : World) (x s : Nat) (hx : x < 18446744073709551616) (hs : s ≤ 1000) (sz : Int) (hsz : sz = (s : Int)) (xz : Int) (hxz : xz = (x : Int)) :
    Calls Tryd.prog 22 #[.int .u64 xz, .int .i64 sz] w (AppPost w w.heap.size (.slice none 0 0) s (leF s x)) := by
  subst hsz
  subst hxz
  have HX := Lib.hid hx
  clear hx
  have h0 : (w.alloc (.cells #[] 5)).ownsRow w.heap.size 5 1 (.slice (some ⟨w.heap.size, 0, none⟩) 0 0) 0 (nums .u8 (leF 0 x)) := own_new [] (Nat.le_refl _) (by decide)
  have hg0 : Below w.heap.size w (w.alloc (.cells #[] 5)) := (Below.refl _ _).alloc (Nat.le_refl _) _
  go_enter Tryd.func22, Tryd.ntmps22
  go_wp2
  go_loopw [0, 5, 6] (fun v0 v5 v6 wr => ∃ (k : Nat) (A1 : Option Addr) (c1 y : Nat), k ≤ s ∧ v6 = .int .i64 k ∧ v0 = .int .u64 y ∧ Hid (y = x / 256 ^ k) ∧ Hid (y < 18446744073709551616) ∧ v5 = .slice A1 k c1 ∧ wr.ownsRow w.heap.size 5 1 (.slice A1 k c1) k (nums .u8 (leF k x)) ∧ Below w.heap.size w wr) (fun _ _ v _ => s - (intOf v).toNat)
  case atStart => exact ⟨0, _, 0, x, by omega, rfl, rfl, Lib.hid (by simp), HX, rfl, h0, hg0⟩
  case round =>
    clear h0 hg0
    obtain ⟨k, A1, c1, y, hk, rfl, rfl, HY, HYB, rfl, hO, hB⟩ := hrel
    by_cases hlt : k < s
    · have hlt' : (k : Int) < (s : Int) := by omega
      have hk0 : (0 : Int) ≤ (k : Int) := by omega
      have hws := hB.size
      have hym : ((y : Int) % 256) = ((y % 256 : Nat) : Int) := by omega
      have HZ : Hid (nums .u8 (leF k x) ++ nums .u8 [(y : Int) % 256] = nums .u8 (leF (k + 1) x)) := Lib.hid (by rw [leF_succ, ← nums_append, hym, HY.out])
      have hOa := World.ownsRow.alloc hO (.cells #[.int .u8 ((y : Int) % 256)] 5)
      have hBa : Below w.heap.size w (wr.alloc (.cells #[.int .u8 ((y : Int) % 256)] 5)) := hB.alloc hB.size _
      have hqd : IntKind.u64.wrap ((y : Int) / 256) = (y : Int) / 256 := by have := HYB.out; rw [IntKind.wrap_u64]; omega
      have HLO : Hid (∀ q, (Value.slice A1 k c1).ownBlock = some q → w.heap.size ≤ q) := Lib.hid fun q hq => own_base hO q hq
      clear hym hO hB
      go_upto_region 6 with (first | (refine wpList_appN rfl (.tmp 13) (.tmp 17) 22 rfl w.heap.size 5 _ 1 Tryd.underlying22 infoU8 rfl (.slice A1 k c1) k (nums .u8 (leF k x)) rfl hOa (some ⟨wr.heap.size, 0, none⟩) 1 1 (nums .u8 [(y : Int) % 256]) rfl (Rd.of_block0 (heap_alloc_new _ _)) (nums_one _ _) (k + 1) (nums .u8 (leF (k + 1) x)) rfl HZ.out (by unfold maxLen; omega) (by omega) (by simp; omega) ?_; intro A3 c3 w3 hO3 hg3 hat3))
      have hB3 : Below w.heap.size w w3 := hBa.grown hg3 hBa.size (fun q hq => HLO.out q hq)
      clear hg3 hat3 hOa hBa
      go_wp2
      go_roundw
      case rel => exact ⟨k + 1, A3, c3, y / 256, by omega, by go_num, by go_num, Lib.hid (by rw [HY.out, div256]), Lib.hid (by have := HYB.out; omega), rfl, hO3, hB3⟩
      case measure => simp [intOf]; omega
    · have hlt' : ¬ (k : Int) < (s : Int) := by omega
      obtain rfl : k = s := by omega
      have hfin : AppPost w w.heap.size (.slice none 0 0) k (leF k x) (.returned (.slice A1 k c1)) wr := ⟨A1, c1, rfl, hO, grown_of_below hB _, by
        rcases hO.2 with ⟨hv, _⟩ | ⟨g, cap, cur, hv, hg, _⟩
        · exact .inl (by rw [hv])
        · exact .inr ⟨g, by rw [hv]; rfl, hg⟩⟩
      have HF := Lib.hid hfin
      clear hfin
      go_wp2
      go_ret
      exact HF.out
end Go.Proofs.YtclkgflficlmiaaDoor
