/- For every text: sha.Parse gives the digest that is shown so, or says that there is none. No condition. -/
import Derived.Test.YtjlkakggmfmfiaaRows
import Derived.Test.YtjlkakggmfmfiaaTextLaw
import Derived.Test.YtjlkakggmfmfiaaFrame
import Derived.Test.YtjlkakggmfmfiaaShaTexts
set_option maxRecDepth 100000
namespace Go.Proofs.Ytjlkakggmfmfiaa
open Go Go.RowKit
open Go.ChangeMaps (open_string shut_string)
theorem shaParses_big (s : ByteArray) (h200 : 200 < s.size) (hm : s.size ≤ maxLen) (w : World) :
    Calls Try.prog 4 #[.string s] w fun e w' => e = .returned (.bool true) ∧ Below w.heap.size w w' := by
  unfold maxLen at hm
  have hs1 : ((textOne.size : Int) != 64) = false := by rw [textOne_size]; rfl
  have hs2 := textOne_list
  have hs3 : 2 ≤ textOne.size := by rw [textOne_size]; decide
  go_enter Try.func4, Try.ntmps4
  go_wp2_with fail
  refine (text_one _).mono ?_
  rintro e w1 ⟨rfl, hb1⟩
  go_wp2
  go_ret
  exact ⟨rfl, hb1⟩
/-- What the law has reckoned behind k signs. -/
def rightB (s : ByteArray) (k : Nat) : Bool := decide (s.size = 64 ∧ ∀ i, i < k → 0 ≤ digitF (bt s i))
theorem rightB_zero (s : ByteArray) : rightB s 0 = decide (s.size = 64) := by
  unfold rightB; congr 1; simp
theorem rightB_succ (s : ByteArray) (k : Nat) : rightB s (k + 1) = (rightB s k && decide (0 ≤ digitF (bt s k))) := by
  unfold rightB
  rw [← Bool.decide_and]
  congr 1
  apply propext
  constructor
  · rintro ⟨h1, h2⟩
    exact ⟨⟨h1, fun i hi => h2 i (by omega)⟩, h2 k (by omega)⟩
  · rintro ⟨⟨h1, h2⟩, h3⟩
    refine ⟨h1, fun i hi => ?_⟩
    rcases Nat.lt_or_ge i k with h | h
    · exact h2 i h
    · obtain rfl : i = k := by omega
      exact h3
theorem rightB_all (s : ByteArray) : rightB s s.size = true ↔ (s.size = 64 ∧ goodN s 32) := by
  unfold rightB
  rw [decide_eq_true_eq]
  constructor
  · rintro ⟨h1, h2⟩
    exact ⟨h1, (good_iff s).2 fun i hi => h2 i (by omega)⟩
  · rintro ⟨h1, h2⟩
    exact ⟨h1, fun i hi => (good_iff s).1 h2 i (by omega)⟩
theorem rightB_step (s : ByteArray) (k : Nat) {r q : Bool} (hr : r = rightB s k) (hq : q = (r && decide ((48 ≤ bt s k ∧ bt s k ≤ 57) ∨ (97 ≤ bt s k ∧ bt s k ≤ 102)))) : q = rightB s (k + 1) := by
  rw [rightB_succ, ← hr, hq]
  congr 1
  exact decide_eq_decide.2 (digitF_ok _).symm
theorem shaParses_small (s : ByteArray) (h200 : s.size ≤ 200) (w : World) :
    Calls Try.prog 4 #[.string s] w fun e w' => e = .returned (.bool true) ∧ Below w.heap.size w w' := by
  have hs1 : ((textOne.size : Int) != 64) = false := by rw [textOne_size]; rfl
  have hs2 := textOne_list
  have hs3 : 2 ≤ textOne.size := by rw [textOne_size]; decide
  go_enter Try.func4, Try.ntmps4
  go_wp2_with fail
  refine (text_one _).mono ?_
  rintro e w1 ⟨rfl, hb1⟩
  go_wp2_with fail
  refine (parse_calls _ _ (by simp only [maxLen]; omega)).mono ?_
  rintro e w2 ⟨hp, hb2⟩
  obtain ⟨hv, ev, b, hlen, hbv, rfl, hcase⟩ : ∃ (hv : List Int) (ev : Int) (b : Bool), hv.length = 32 ∧ Bytes hv ∧ e = .returned (.tuple #[.agg (nums .u8 hv).toArray, .int .i64 ev]) ∧
      Hid ((b = true ∧ s.size = 64 ∧ goodN s 32 ∧ hv = parseN s 32 ∧ ev = 0) ∨ (b = false ∧ ¬ (s.size = 64 ∧ goodN s 32) ∧ hv = zeros32 ∧ ev = 2)) := by
    rcases hp with ⟨h1, h2, rfl⟩ | ⟨h1, rfl⟩
    · exact ⟨_, _, true, parseN_length s 32, parseN_bytes s h2, rfl, .inl ⟨rfl, h1, h2, rfl, rfl⟩⟩
    · exact ⟨zeros32, _, false, rfl, by intro x hx; obtain rfl := List.eq_of_mem_replicate hx; omega, rfl, .inr ⟨rfl, h1, rfl, rfl⟩⟩
  clear hp
  have bel2 : Below w.heap.size w w2 := below_then hb1 hb1.size hb2
  have hi : (Try.prog.info? 23).map (·.size) = some (nums .u8 hv).toArray.size := by rw [nums_size, hlen]; exact info_hash
  have hz : (nums .u8 zeros32).toArray.size = (nums .u8 hv).toArray.size := by rw [nums_size, nums_size, hlen]; rfl
  go_upto_region 7 with (first | (refine wpList_store_any rfl 23 (.tmp 4) (.tmp 24) rfl w2.heap.size (nums .u8 hv).toArray rfl rfl 23 (nums .u8 zeros32).toArray (heap_alloc_new _ _) hi hz (nums_all _ _) ?_; intro w3 h3 ht3))
  have bel3 := ht3.below (bel2.alloc bel2.size _) bel2.size
  clear hb1 hb2 ht3 bel2
  go_upto_region 8 with fail
  go_wp2
  go_loopw [6, 7] (fun v i wr => ∃ (k : Nat) (r : Bool), k ≤ s.size ∧ i = .int .i64 k ∧ v = .bool r ∧ Hid (r = rightB s k) ∧ wr = w3) (fun _ i _ => (s.size - intOf i).toNat)
  case atStart => exact ⟨0, ((s.size : Int) == 64), by omega, rfl, rfl, Lib.hid (by rw [rightB_zero]; rw [Bool.eq_iff_iff]; simp; omega), rfl⟩
  case round =>
    obtain ⟨k, r, hk, rfl, rfl, hr, rfl⟩ := hrel
    by_cases hlt : k < s.size
    · have i1 := fun W => run_index_bt Try.prog 9 Try.underlying9 s .i64 k hlt W
      have hbt := bt_range s k
      cases r with
      | false =>
        go_wp2
        go_roundw
        case rel => exact ⟨k + 1, false, by omega, by go_num, rfl, Lib.hid (rightB_step s k hr.out rfl), trivial⟩
        case measure => simp [intOf]; omega
      | true =>
        by_cases c1 : 48 ≤ bt s k
        · by_cases c2 : bt s k ≤ 57
          · have HQ := Lib.hid (rightB_step s k (q := true) hr.out (by rw [Bool.true_and, eq_comm, decide_eq_true_eq]; exact .inl ⟨c1, c2⟩))
            go_wp2
            go_roundw
            case rel => exact ⟨k + 1, true, by omega, by go_num, rfl, HQ, trivial⟩
            case measure => simp [intOf]; omega
          · by_cases c3 : 97 ≤ bt s k
            · by_cases c4 : bt s k ≤ 102
              · have HQ := Lib.hid (rightB_step s k (q := true) hr.out (by rw [Bool.true_and, eq_comm, decide_eq_true_eq]; exact .inr ⟨c3, c4⟩))
                go_wp2
                go_roundw
                case rel => exact ⟨k + 1, true, by omega, by go_num, rfl, HQ, trivial⟩
                case measure => simp [intOf]; omega
              · have HQ := Lib.hid (rightB_step s k (q := false) hr.out (by rw [Bool.true_and, eq_comm, decide_eq_false_iff_not]; omega))
                go_wp2
                go_roundw
                case rel => exact ⟨k + 1, false, by omega, by go_num, rfl, HQ, trivial⟩
                case measure => simp [intOf]; omega
            · have HQ := Lib.hid (rightB_step s k (q := false) hr.out (by rw [Bool.true_and, eq_comm, decide_eq_false_iff_not]; omega))
              go_wp2
              go_roundw
              case rel => exact ⟨k + 1, false, by omega, by go_num, rfl, HQ, trivial⟩
              case measure => simp [intOf]; omega
        · have HQ := Lib.hid (rightB_step s k (q := false) hr.out (by rw [Bool.true_and, eq_comm, decide_eq_false_iff_not]; omega))
          go_wp2
          go_roundw
          case rel => exact ⟨k + 1, false, by omega, by go_num, rfl, HQ, trivial⟩
          case measure => simp [intOf]; omega
    · obtain ⟨hbr, hHR⟩ : Hid (b = r) ∧ True := by
        refine ⟨?_, trivial⟩
        have e : r = true ↔ (s.size = 64 ∧ goodN s 32) := by rw [hr.out, show k = s.size by omega, rightB_all]
        rcases hcase with ⟨rfl, h1, h2, _⟩ | ⟨rfl, h1, _⟩
        · exact (e.2 ⟨h1, h2⟩).symm
        · exact (Bool.eq_false_iff.2 fun h => h1 (e.1 h)).symm
      cases r with
      | false =>
        have hc2 : hv = zeros32 ∧ ev = 2 := by
          rcases hcase with ⟨h, _⟩ | ⟨_, _, h, h'⟩
          · exact absurd (hbr.out.symm.trans h) (by decide)
          · exact ⟨h, h'⟩
        obtain ⟨rfl, rfl⟩ := hc2
        have hq : ∀ W, (binOp .eql 23 (.agg (nums .u8 zeros32).toArray) (.agg #[.int .u8 0, .int .u8 0, .int .u8 0, .int .u8 0, .int .u8 0, .int .u8 0, .int .u8 0, .int .u8 0, .int .u8 0, .int .u8 0, .int .u8 0, .int .u8 0, .int .u8 0, .int .u8 0, .int .u8 0, .int .u8 0, .int .u8 0, .int .u8 0, .int .u8 0, .int .u8 0, .int .u8 0, .int .u8 0, .int .u8 0, .int .u8 0, .int .u8 0, .int .u8 0, .int .u8 0, .int .u8 0, .int .u8 0, .int .u8 0, .int .u8 0, .int .u8 0])).run Try.prog W = .ok (.bool true) W := fun W =>
          (run_eql_nums (P := Try.prog) W 23 5 32 .u8 .u8 Try.underlying23 Try.underlying5 info_u8 zeros32 zeros32 rfl rfl).trans (by rw [beq_self_eq_true])
        clear hcase hbr hr
        go_wp2_with (first | (refine wpList_load_rowG rfl 23 (.tmp 4) rfl w2.heap.size rfl 23 _ _ _ h3 Try.underlying23 rfl hi ?_))
        go_ret
        exact ⟨rfl, bel3⟩
      | true =>
        have hc2 : hv = parseN s 32 ∧ ev = 0 ∧ s.size = 64 ∧ goodN s 32 := by
          rcases hcase with ⟨_, h1, h2, h3, h4⟩ | ⟨h, _⟩
          · exact ⟨h3, h4, h1, h2⟩
          · exact absurd (hbr.out.symm.trans h) (by decide)
        obtain ⟨hvE, rfl, hE1, hE2⟩ := hc2
        have htext := text_parse s hE1 hE2
        rw [← hvE] at htext
        have HT := Lib.hid htext
        clear hcase hbr hr htext hvE hE1
        go_wp2_with (first | (refine wpList_load_rowG rfl 23 (.tmp 4) rfl w2.heap.size rfl 23 _ _ _ h3 Try.underlying23 rfl hi ?_) | (go_at_call 9; refine (text_calls hv hlen hbv _).mono ?_; rw [HT.out]; rintro e w4 ⟨rfl, hb4⟩))
        go_ret
        exact ⟨rfl, below_then bel3 bel3.size hb4⟩

/-! ### the row -/
open Go.ChangeShapes Go.WideShapes Go.ChangeAt
theorem shaParses_lifted (os : Os) (started : os.Started) (H : Type) (enc : TypeId × Value → H) :
    ReturnsInHanded {} Try.checked os 4 .any (Rows.shaParsesSpec.pre6 enc Try.prog Try.f4 Rows.shaParsesRow.domain false) (Rows.shaParsesSpec.post enc Try.prog Try.f4 false true false false) := by
  refine returnsInHanded_of_change (C := Try.checked) own started (by kernel_rfl) Try.func4
    (ChangeSpec.witness6 (enc := enc) (C := Try.checked) false ⟨#[], #[.string ByteArray.empty], []⟩ 8 (by kernel_rfl) (by kernel_rfl) (by kernel_rfl) (by kernel_rfl)) ?_
  intro W base args ds gs before hval0 hW _ _
  have hval : ∀ (j : Nat) t v, Try.f4.params[j]? = some t → args[j]? = some v → Value.okWide Try.prog W .any base t v := hval0
  have hW' := hW
  obtain ⟨p, q, hA0, _, _, _, _⟩ := hW
  have hA : DataW.TrodAll enc Try.prog W 0 (fun _ => true) true Try.f4.params.toList args.toList ds p := hA0
  rw [Try.params4] at hA hval
  obtain ⟨v0, vs0, d0, ds0, p0, q0, hargs, rfl, rfl, h0, r0⟩ := trodAll_cons hA
  obtain ⟨rfl, rfl, rfl⟩ := trodAll_nil r0
  obtain rfl : args = #[v0] := by cases args; simp_all
  obtain ⟨a0, rfl, rfl, rfl, w0⟩ := open_string Try.underlying9 (hval 0 9 v0 rfl rfl) h0
  have walk : Calls Try.prog 4 #[.string a0] W fun e w' => e = .returned (.bool true) ∧ Below W.heap.size W w' := by
    rcases Nat.lt_or_ge 200 a0.size with h | h
    · exact shaParses_big a0 h w0 W
    · exact shaParses_small a0 h W
  refine walk.mono fun e W' ⟨he, bel⟩ => ⟨_, he, ?_⟩
  exact law_post (tb := 4) laidOut (by kernel_rfl) Try.underlying4 rfl rfl (fun ds h => match ds, h with | [d], _ => rfl) hW' bel
theorem shaParses_over : Rows.shaParsesRow.holds Try.pinned (OpenSpec.ofChange Rows.shaParsesSpec) :=
  OpenClaim.holds_of_wide 4 Try.f4 rfl rfl rfl rfl rfl rfl rfl ⟨rfl, rfl, rfl, rfl, rfl⟩ rfl rfl rfl rfl rfl (by kernel_rfl) Try.func4 (by kernel_rfl)
    (of_decide_eq_true (by kernel_rfl)) (by unfold Func.isWrapper; first | (rw [if_pos (by decide +kernel)]; kernel_rfl) | (rw [if_neg (by decide +kernel)]; exact ⟨rfl, rfl⟩))
    (fun os started H enc _ => shaParses_lifted os started H enc)
theorem shaParses_holds : Rows.ShaParsesSaid := shaParses_over
#print axioms shaParses_holds
end Go.Proofs.Ytjlkakggmfmfiaa
