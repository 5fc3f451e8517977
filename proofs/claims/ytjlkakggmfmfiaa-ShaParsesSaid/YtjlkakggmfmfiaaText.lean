/- The digest's text: what sha.digit, sha.Text, sha.Parse and the reference's Text hand back. -/
import Derived.Test.YtjlkakggmfmfiaaChecked
import Derived.Test.YtjlkakggmfmfiaaWords
import Derived.WalkKit
import Derived.KernelRfl
import Derived.Deep.QuietTactic
import Derived.BigQuiet
import Derived.WalkSpells
import Derived.WalkLawsBesides
import Derived.Deep.RegionHeld3
import Derived.Deep.DeepCutAuto
set_option maxRecDepth 100000
namespace Go.Proofs.Ytjlkakggmfmfiaa
open Go.RowKit
def digitF (c : Int) : Int := if 48 ≤ c ∧ c ≤ 57 then c - 48 else if 97 ≤ c ∧ c ≤ 102 then c - 87 else -1
theorem digit_calls (c : Int) (w : World) (h0 : 0 ≤ c) (h1 : c ≤ 255) :
    Calls Try.prog 21 #[.int .u8 c] w fun e w' => e = .returned (.int .i64 (digitF c)) ∧ w = w' := by
  by_cases a1 : 48 ≤ c
  · by_cases a2 : c ≤ 57
    · have H := Lib.hid (show digitF c = c - 48 by unfold digitF; rw [if_pos ⟨a1, a2⟩])
      go_enter Try.func21, Try.ntmps21
      go_wp2
      go_ret
      rw [H.out]
      exact ⟨rfl, rfl⟩
    · by_cases a3 : 97 ≤ c
      · by_cases a4 : c ≤ 102
        · have H := Lib.hid (show digitF c = c - 97 + 10 by unfold digitF; rw [if_neg (by omega), if_pos ⟨a3, a4⟩]; omega)
          go_enter Try.func21, Try.ntmps21
          go_wp2
          go_ret
          rw [H.out]
          exact ⟨rfl, rfl⟩
        · have H := Lib.hid (show digitF c = -1 by unfold digitF; rw [if_neg (by omega), if_neg (by omega)])
          go_enter Try.func21, Try.ntmps21
          go_wp2
          go_ret
          rw [H.out]
          exact ⟨rfl, rfl⟩
      · have H := Lib.hid (show digitF c = -1 by unfold digitF; rw [if_neg (by omega), if_neg (by omega)])
        go_enter Try.func21, Try.ntmps21
        go_wp2
        go_ret
        rw [H.out]
        exact ⟨rfl, rfl⟩
  · have H := Lib.hid (show digitF c = -1 by unfold digitF; rw [if_neg (by omega), if_neg (by omega)])
    go_enter Try.func21, Try.ntmps21
    go_wp2
    go_ret
    rw [H.out]
    exact ⟨rfl, rfl⟩
/-- The signs of the digest's last k bytes. -/
def textN (h : List Int) : Nat → List Int
  | 0 => []
  | k + 1 => textN h k ++ [sg (rd h (31 - k) / 16), sg (rd h (31 - k) % 16)]
theorem textN_length (h : List Int) (k : Nat) : (textN h k).length = 2 * k := by
  induction k with
  | zero => rfl
  | succ k ih => simp [textN, ih]; omega
theorem info8 : (Try.prog.info? 5).map (fun i => (i.zero, i.size, i.bytes)) = some (some (.int .u8 0), 1, 1) := by kernel_rfl
theorem text_calls (h : List Int) (hl : h.length = 32) (hb : Bytes h) (w : World) :
    Calls Try.prog 9 #[.agg (nums .u8 h).toArray] w fun e w' => e = .returned (.string (strOfNums (textN h 32))) ∧ Below w.heap.size w w' := by
  go_enter Try.func9, Try.ntmps9
  go_wp2
  go_loopw [3, 4] (fun v i wr => ∃ (k : Nat), k ≤ 32 ∧ i = .int .i64 (31 - k) ∧ wr.ownsRow (w.heap.size + 1) 5 1 v (2 * k) (nums .u8 (textN h k)) ∧ Below w.heap.size w wr ∧ wr.heap[w.heap.size]? = some (.cells (nums .u8 h).toArray 23)) (fun _ i _ => (intOf i + 1).toNat)
  case atStart => exact ⟨0, by omega, rfl, World.ownsRow_nil _ _ _ _, (Below.refl _ _).alloc (Nat.le_refl _) _, heap_alloc_new w _⟩
  case round =>
    obtain ⟨k, hk, rfl, hown, hbel, hblk⟩ := hrel
    have hsz : w.heap.size < wr.heap.size := heap_lt hblk
    by_cases hlt : k < 32
    · have hcell : wr.cell? ⟨w.heap.size, 31 - k, none⟩ = some (.int .u8 (rd h (31 - k))) := blk_num hblk _ (by omega)
      have hn : (31 - (k : Int)).toNat = 31 - k := by omega
      have hb1 := hb.rd (31 - k)
      have c1 : 0 ≤ 31 - (k : Int) := by omega
      have c2 : 31 - (k : Int) < 32 := by omega
      have hand := u8_and15 _ hb1.1 (by omega)
      have i1 := fun W => run_signs Try.prog 9 Try.underlying9 .u8 (rd h (31 - k) / 16) (by omega) (by omega) W
      have i2 := fun W => run_signs Try.prog 9 Try.underlying9 .u8 (rd h (31 - k) % 16) (by omega) (by omega) W
      go_wp2
      go_region_held3 (fun w' => w'.cell? ⟨w.heap.size, 31 - k, none⟩ = some (.int .u8 (rd h (31 - k)))) (first | go_keep | ((rw [hgrow.cell_far _ (by simp; omega) (own_blk_ne (own_drewN hown 1) hblk (by decide))]; assumption)))
        ((refine step_app _ (by rfl) _ _ _ (by rfl) (w.heap.size + 1) 5 _ 1 Try.underlying36 info8 rfl _ (2 * k) (nums .u8 (textN h k)) (by rfl) ((hown.alloc _).drew) _ 2 2 [.int .u8 (sg (rd h (31 - k) / 16)), .int .u8 (sg (rd h (31 - k) % 16))] (by rfl) (Rd.of_block0 (heap_alloc_new _ _)) (by simp [Value.oneCell']) (by simp only [maxLen]; omega) (by omega) (by simp; omega) ?_; intro A1 c1 w1 hown1 hgrow hat))
      all_goals
        clear i1 i2 hand hn hcell
        go_wp2
        go_roundw
        case rel =>
          refine ⟨k + 1, by omega, by go_num, by simpa [textN, nums, Nat.mul_add] using hown1, (hbel.alloc (Nat.le_of_lt hsz) _).drew.grown hgrow (by simp; omega) (fun j hj => by have := own_base hown j hj; omega), ?_⟩
          exact heap_grown hgrow (blk_alloc hblk _) (own_blk_ne hown hblk (by decide))
        case measure => simp [intOf]; omega
    · have c3 : 31 - (k : Int) < 0 := by omega
      have hcv := own_string (src := 36) (dst := 9) Try.underlying36 Try.underlying5 Try.underlying9 hown
      go_wp2
      go_ret
      obtain rfl : k = 32 := by omega
      exact ⟨rfl, hbel⟩
theorem digitF_range (c : Int) : -1 ≤ digitF c ∧ digitF c ≤ 15 := by unfold digitF; split <;> (try split) <;> omega
/-- The digest behind k rounds. -/
def parseN (s : ByteArray) : Nat → List Int
  | 0 => List.replicate 32 0
  | k + 1 => (parseN s k).set (31 - k) (16 * digitF (bt s (2 * k)) + digitF (bt s (2 * k + 1)))
theorem parseN_length (s : ByteArray) (k : Nat) : (parseN s k).length = 32 := by
  induction k with
  | zero => rfl
  | succ k ih => simp [parseN, ih]
/-- The first k pairs of signs are digits. -/
def goodN (s : ByteArray) (k : Nat) : Prop := ∀ i, i < k → 0 ≤ digitF (bt s (2 * i)) ∧ 0 ≤ digitF (bt s (2 * i + 1))
def zeros32 : List Int := List.replicate 32 0
theorem info_hash : (Try.prog.info? 23).map (·.size) = some 32 := by kernel_rfl
/-- What Parse hands back. -/
def ParseEnds (s : ByteArray) (e : Ending) : Prop :=
  (s.size = 64 ∧ goodN s 32 ∧ e = .returned (.tuple #[.agg (nums .u8 (parseN s 32)).toArray, .int .i64 0])) ∨
  (¬ (s.size = 64 ∧ goodN s 32) ∧ e = .returned (.tuple #[.agg (nums .u8 zeros32).toArray, .int .i64 2]))
theorem info_zeros : (Try.prog.info? 23).map (·.size) = some (nums .u8 zeros32).toArray.size := by rw [nums_size]; exact info_hash
set_option maxHeartbeats 400000 in
theorem parse_calls (s : ByteArray) (w : World) (hm : s.size ≤ maxLen) :
    Calls Try.prog 10 #[.string s] w fun e w' => ParseEnds s e ∧ Below w.heap.size w w' := by
  unfold maxLen at hm
  by_cases hs : s.size = 64
  · have hs1 : ((s.size : Int) != 64) = false := by rw [hs]; rfl
    have hsH := Lib.hid hs
    have hsl : 64 ≤ s.size := by omega
    clear hs
    go_enter Try.func10, Try.ntmps10
    go_wp2
    go_loopw [12] (fun i wr => ∃ (k : Nat), k ≤ 32 ∧ i = .int .i64 k ∧ Hid (goodN s k) ∧ Below w.heap.size w wr ∧ wr.heap[w.heap.size]? = some (.cells (nums .u8 zeros32).toArray 23) ∧ wr.heap[w.heap.size + 1]? = some (.cells (nums .u8 (parseN s k)).toArray 23)) (fun i _ => (32 - intOf i).toNat)
    case atStart => exact ⟨0, by omega, rfl, Lib.hid (fun i hi => absurd hi (by omega)), ((Below.refl _ _).alloc (Nat.le_refl _) _).alloc (by simp) _, heap_alloc2_old _ _ _, heap_alloc2_new _ _ _⟩
    case round =>
      obtain ⟨k, hk, rfl, hgood, hbel, hb0, hb1⟩ := hrel
      by_cases hlt : k < 32
      · have r1 := digitF_range (bt s (2 * k))
        have r2 := digitF_range (bt s (2 * k + 1))
        have i1 : ∀ W, (Instr.index 9 (.string s) (.int .i64 (2 * (k : Int)))).run Try.prog W = .ok (.int .u8 (bt s (2 * k))) W := fun W => run_index_bt Try.prog 9 Try.underlying9 s .i64 (2 * k) (by omega) W
        have i2 : ∀ W, (Instr.index 9 (.string s) (.int .i64 (2 * (k : Int) + 1))).run Try.prog W = .ok (.int .u8 (bt s (2 * k + 1))) W := fun W => run_index_bt Try.prog 9 Try.underlying9 s .i64 (2 * k + 1) (by omega) W
        have b1 := bt_range s (2 * k)
        have b2 := bt_range s (2 * k + 1)
        have e1 : IntKind.i64.wrap (2 * (k : Int)) = 2 * k := IntWalk.i64_in _ (by omega)
        have e2 : IntKind.i64.wrap (2 * (k : Int) + 1) = 2 * k + 1 := IntWalk.i64_in _ (by omega)
        by_cases hg : 0 ≤ digitF (bt s (2 * k)) ∧ 0 ≤ digitF (bt s (2 * k + 1))
        · obtain ⟨g1, g2⟩ := hg
          go_wp2
          go_quiet ((go_at_call 21; exact quiet_left (digit_calls _ _ (by omega) (by omega))))
          clear i1 i2 e1 e2
          have hc : wr.cell? ⟨w.heap.size + 1, 31 - k, none⟩ = some (.int .u8 (rd (parseN s k) (31 - k))) := blk_num hb1 _ (by rw [parseN_length]; omega)
          have hf : wr.frozen? ⟨w.heap.size + 1, 31 - k, none⟩ = false := blk_frozen hb1 _
          have hn : (31 - (k : Int)).toNat = 31 - k := by omega
          go_wp2
          go_roundw
          case rel =>
            refine ⟨k + 1, by omega, by go_num, Lib.hid (fun i hi => ?_), (below_drewN hbel _).setCell (by simp) _, ?_, ?_⟩
            · rcases Nat.lt_or_ge i k with h | h
              · exact hgood.out i h
              · obtain rfl : i = k := by omega
                exact ⟨g1, g2⟩
            · exact blk_far (w := wr.drewN _) hb0 (by simp) _
            · have := blk_set (w := wr.drewN nq) hb1 (31 - k) (.int .u8 (16 * digitF (bt s (2 * k)) + digitF (bt s (2 * k + 1))))
              rw [nums_setA] at this
              exact this
          case measure => simp [intOf]; omega
        · have hbad : ¬ (s.size = 64 ∧ goodN s 32) := fun h => hg (h.2 k hlt)
          have HB := Lib.hid hbad
          clear hbad
          have hz : (nums .u8 zeros32).toArray.size = (nums .u8 zeros32).toArray.size := rfl
          by_cases g1 : digitF (bt s (2 * k)) < 0
          all_goals
            first
              | have g2 : digitF (bt s (2 * k + 1)) < 0 := by omega
              | skip
            clear hg
            go_wp2
            go_quiet ((go_at_call 21; exact quiet_left (digit_calls _ _ (by omega) (by omega))))
            clear i1 i2 e1 e2
            have hb0' : (wr.drewN nq).heap[w.heap.size]? = _ := hb0
            go_wp2_with (first | (refine wpList_store_row rfl 23 (.tmp 2) (.tmp 32) rfl w.heap.size (nums .u8 zeros32).toArray rfl rfl 23 _ hb0' info_zeros rfl (nums_all _ _) ?_))
            refine bodyPost_ret (results_cell_tmp rfl _ _ w.heap.size 23 (nums .u8 zeros32).toArray (0, 0) _ rfl (setRow_heap _ _ _ _ _ _ hb0') Try.underlying23 rfl info_zeros) rfl ⟨.inr ⟨HB.out, rfl⟩, below_setRow' (below_drewN hbel _) (Nat.le_refl _) _⟩
      · have c3 : 32 ≤ (k : Int) := by omega
        have hz : (nums .u8 zeros32).toArray.size = (nums .u8 (parseN s k)).toArray.size := by rw [nums_size, nums_size, parseN_length]; rfl
        have hi : (Try.prog.info? 23).map (·.size) = some (nums .u8 (parseN s k)).toArray.size := by rw [nums_size, parseN_length]; exact info_hash
        go_wp2_with (first | (refine wpList_load_row rfl 23 (.tmp 4) rfl (w.heap.size + 1) rfl 23 _ _ _ hb1 Try.underlying23 rfl hi ?_) | (refine wpList_store_row rfl 23 (.tmp 2) (.tmp 42) rfl w.heap.size _ rfl rfl 23 _ hb0 hi hz (nums_all _ _) ?_))
        have hk32 : k = 32 := by omega
        refine bodyPost_ret (results_cell_tmp rfl _ _ w.heap.size 23 (nums .u8 (parseN s k)).toArray (0, 0) _ rfl (setRow_heap _ _ _ _ _ _ hb0) Try.underlying23 rfl hi) rfl ⟨.inl ⟨hsH.out, hk32 ▸ hgood.out, by rw [hk32]; rfl⟩, below_setRow' hbel (Nat.le_refl _) _⟩
  · have hs1 : ((s.size : Int) != 64) = true := by rw [bne_iff_ne]; omega
    have HB := Lib.hid (show ¬ (s.size = 64 ∧ goodN s 32) from fun h => hs h.1)
    clear hs
    go_enter Try.func10, Try.ntmps10
    go_wp2_with (first | (refine wpList_load_row rfl 23 (.tmp 4) rfl (w.heap.size + 1) rfl 23 _ (0, 0) _ (heap_alloc2_new _ _ _) Try.underlying23 rfl info_zeros ?_) | (refine wpList_store_row rfl 23 (.tmp 2) (.tmp 11) rfl w.heap.size (nums .u8 zeros32).toArray rfl rfl 23 _ (heap_alloc2_old _ _ _) info_zeros rfl (nums_all _ _) ?_))
    refine bodyPost_ret (results_cell_tmp rfl _ _ w.heap.size 23 (nums .u8 zeros32).toArray (0, 0) _ rfl (setRow_heap _ _ _ _ _ _ (heap_alloc2_old _ _ _)) Try.underlying23 rfl info_zeros) rfl ⟨.inr ⟨HB.out, rfl⟩, below_setRow' (((Below.refl _ _).alloc (Nat.le_refl _) _).alloc (by simp) _) (Nat.le_refl _) _⟩
theorem reftext_calls (h : List Int) (hl : h.length = 32) (hb : Bytes h) (w : World) :
    Calls Try.prog 11 #[.agg (nums .u8 h).toArray] w fun e w' => e = .returned (.string (strOfNums (textN h 32))) ∧ Below w.heap.size w w' := by
  go_enter Try.func11, Try.ntmps11
  go_wp2
  go_loopw [3, 5] (fun v i wr => ∃ (k : Nat), k ≤ 32 ∧ i = .int .i64 k ∧ v = .string (strOfNums (textN h k)) ∧ ∃ n, wr = (w.alloc (.cells (nums .u8 h).toArray 22)).drewN n) (fun _ i _ => (32 - intOf i).toNat)
  case atStart => exact ⟨0, by omega, rfl, rfl, 0, rfl⟩
  case round =>
    obtain ⟨k, hk, rfl, rfl, n, rfl⟩ := hrel
    by_cases hlt : k < 32
    · have hcell : (w.alloc (.cells (nums .u8 h).toArray 22)).cell? ⟨w.heap.size, 31 - k, none⟩ = some (.int .u8 (rd h (31 - k))) := blk_num (heap_alloc_new _ _) _ (by omega)
      have hn : (31 - (k : Int)).toNat = 31 - k := by omega
      have hb1 := hb.rd (31 - k)
      have hq : 0 ≤ rd h (31 - k) / 16 ∧ rd h (31 - k) / 16 < 16 := by omega
      have hr : 0 ≤ rd h (31 - k) % 16 ∧ rd h (31 - k) % 16 < 16 := by omega
      have i1 := fun W => run_sign_cut Try.prog 9 Try.underlying9 (rd h (31 - k) / 16) hq.1 hq.2 W
      have i2 := fun W => run_sign_cut Try.prog 9 Try.underlying9 (rd h (31 - k) % 16) hr.1 hr.2 W
      have e1 : IntKind.i64.wrap (rd h (31 - k) / 16 + 1) = rd h (31 - k) / 16 + 1 := IntWalk.i64_in _ (by omega)
      have e2 : IntKind.i64.wrap (rd h (31 - k) % 16 + 1) = rd h (31 - k) % 16 + 1 := IntWalk.i64_in _ (by omega)
      have t1 : (rd h (31 - k)).tdiv 16 = rd h (31 - k) / 16 := Int.tdiv_eq_ediv_of_nonneg hb1.1
      have t2 : (rd h (31 - k)).tmod 16 = rd h (31 - k) % 16 := Int.tmod_eq_emod_of_nonneg hb1.1
      have e3 : IntKind.i64.wrap (rd h (31 - k) / 16) = rd h (31 - k) / 16 := IntWalk.i64_in _ (by omega)
      have s1 := fun W => run_add_nums (P := Try.prog) (textN h k) [sg (rd h (31 - k) / 16)] (by rw [textN_length]; simp; omega) W
      have s2 := fun W => run_add_nums (P := Try.prog) (textN h k ++ [sg (rd h (31 - k) / 16)]) [sg (rd h (31 - k) % 16)] (by rw [List.length_append, textN_length]; simp; omega) W
      go_wp2
      go_quiet (fail)
      clear s1 s2 i1 i2 e1 e2 e3 t1 t2
      go_wp2
      go_roundw
      case rel => exact ⟨k + 1, by omega, by go_num, by simp [textN], _, rfl⟩
      case measure => simp [intOf]; omega
    · have c3 : 32 ≤ (k : Int) := by omega
      go_wp2
      go_ret
      obtain rfl : k = 32 := by omega
      exact ⟨rfl, below_drewN ((Below.refl _ _).alloc (Nat.le_refl _) _) _⟩
end Go.Proofs.Ytjlkakggmfmfiaa
