/- For every digest: sha.Text of it is the reference's text, and sha.Parse reads that text back to it. No condition. -/
import Derived.Test.YtjlkakggmfmfiaaRows
import Derived.Test.YtjlkakggmfmfiaaTextLaw
import Derived.Test.YtjlkakggmfmfiaaFrame
set_option maxRecDepth 100000
namespace Go.Proofs.Ytjlkakggmfmfiaa
open Go Go.RowKit
/-- The digest whose last byte is one, and its text. -/
def hashOne : List Int := List.replicate 31 0 ++ [1]
def textOne : ByteArray := strOfNums (textN hashOne 32)
theorem hashOne_bytes : Bytes hashOne := by intro x hx; revert x hx; decide
theorem textOne_size : textOne.size = 64 := by decide
theorem textOne_cut : textOne.extract 0 2 = ⟨#[48, 49]⟩ := by decide +kernel
/-- The head's call. -/
theorem text_one (w : World) : Calls Try.prog 9 #[.agg #[.int .u8 0, .int .u8 0, .int .u8 0, .int .u8 0, .int .u8 0, .int .u8 0, .int .u8 0, .int .u8 0, .int .u8 0, .int .u8 0, .int .u8 0, .int .u8 0, .int .u8 0, .int .u8 0, .int .u8 0, .int .u8 0, .int .u8 0, .int .u8 0, .int .u8 0, .int .u8 0, .int .u8 0, .int .u8 0, .int .u8 0, .int .u8 0, .int .u8 0, .int .u8 0, .int .u8 0, .int .u8 0, .int .u8 0, .int .u8 0, .int .u8 0, .int .u8 1]] w
    fun e w' => e = .returned (.string textOne) ∧ Below w.heap.size w w' := text_calls hashOne rfl hashOne_bytes w
theorem textOne_list : ((textOne.extract 0 2).toList == [48, 49]) = true := by rw [textOne_cut]; decide +kernel
theorem info_u8 : (Try.prog.info? 5).map (·.size) = some 1 := by kernel_rfl
theorem shaTexts_walk (h : List Int) (hl : h.length = 32) (hb : Bytes h) (w : World) :
    Calls Try.prog 3 #[.agg (nums .u8 h).toArray] w fun e w' => e = .returned (.bool true) ∧ Below w.heap.size w w' := by
  have hs1 : ((textOne.size : Int) != 64) = false := by rw [textOne_size]; rfl
  have hs2 := textOne_list
  have hs3 : 2 ≤ textOne.size := by rw [textOne_size]; decide
  have hi : (Try.prog.info? 23).map (·.size) = some (nums .u8 h).toArray.size := by rw [nums_size, hl]; exact info_hash
  have hz : (nums .u8 zeros32).toArray.size = (nums .u8 h).toArray.size := by rw [nums_size, nums_size, hl]; rfl
  have hq := fun W => run_eql_nums (P := Try.prog) W 23 5 32 .u8 .u8 Try.underlying23 Try.underlying5 info_u8 h h hl hl
  simp only [beq_self_eq_true] at hq
  go_enter Try.func3, Try.ntmps3
  go_wp2_with fail
  refine (text_one _).mono ?_
  rintro e w1 ⟨rfl, hb1⟩
  have h1 := heap_below hb1 (heap_alloc_new w _)
  have z1 : w.heap.size < w1.heap.size := heap_lt h1
  go_wp2_with (first | (refine wpList_load_row rfl 23 (.tmp 1) rfl w.heap.size rfl 23 _ _ _ h1 Try.underlying23 rfl hi ?_))
  refine (text_calls h hl hb _).mono ?_
  rintro e w2 ⟨rfl, hb2⟩
  have h2 := heap_below hb2 h1
  go_wp2_with fail
  refine (parse_calls _ _ (by rw [strOfNums_size, textN_length]; simp [maxLen])).mono ?_
  rintro e w3 ⟨hp, hb3⟩
  obtain rfl := parse_text h hl hb e hp
  clear hp
  have h3 := heap_below hb3 h2
  have bel : Below w.heap.size w w3 := below_then (below_then (below_then ((Below.refl _ _).alloc (Nat.le_refl _) _) (by simp) hb1) (by omega) hb2) (by have := heap_lt h2; omega) hb3
  go_upto_region 6 with (first | (refine wpList_store_any rfl 23 (.tmp 5) (.tmp 22) rfl w3.heap.size (nums .u8 h).toArray rfl rfl 23 (nums .u8 zeros32).toArray (heap_alloc_new _ _) hi hz (nums_all _ _) ?_; intro w4 h4 ht4))
  have h3' := ht4.keep (blk_alloc h3 _) (by have := heap_lt h3; omega)
  have bel4 := ht4.below (bel.alloc (by have := heap_lt h3; omega) _) (by have := heap_lt h3; omega)
  clear hb1 hb2 hb3 h1 h2 h3 bel ht4 z1
  go_wp2_with (first | (refine wpList_load_row rfl 23 (.tmp 1) rfl w.heap.size rfl 23 _ _ _ h3' Try.underlying23 rfl hi ?_))
  refine (reftext_calls h hl hb _).mono ?_
  rintro e w5 ⟨rfl, hb5⟩
  have h5 := heap_below hb5 h3'
  have h5' := heap_below hb5 h4
  have bel5 := below_then bel4 (by have := heap_lt h3'; omega) hb5
  go_wp2_with (first | (refine wpList_load_rowG rfl 23 (.tmp 1) rfl w.heap.size rfl 23 _ _ _ h5 Try.underlying23 rfl hi ?_) | (refine wpList_load_rowG rfl 23 (.tmp 5) rfl w3.heap.size rfl 23 _ _ _ h5' Try.underlying23 rfl hi ?_))
  go_ret
  exact ⟨rfl, bel5⟩

/-! ### the row -/
open Go.ChangeShapes Go.WideShapes Go.ChangeAt
theorem own : ownKnob Try.prog.godebug = none := by kernel_rfl
theorem laidOut : laidOutB Try.prog = true := by kernel_rfl
theorem cells_u8 : Try.prog.cellsOf 5 = 1 := by kernel_rfl
theorem cells_hash : Try.prog.cellsOf 23 = 32 := by kernel_rfl
theorem shaTexts_lifted (os : Os) (started : os.Started) (H : Type) (enc : TypeId × Value → H) :
    ReturnsInHanded {} Try.checked os 3 .any (Rows.shaTextsSpec.pre6 enc Try.prog Try.f3 Rows.shaTextsRow.domain false) (Rows.shaTextsSpec.post enc Try.prog Try.f3 false true false false) := by
  refine returnsInHanded_of_change (C := Try.checked) own started (by kernel_rfl) Try.func3
    (ChangeSpec.witness6 (enc := enc) (C := Try.checked) false ⟨#[], #[.agg #[.int .u8 0, .int .u8 0, .int .u8 0, .int .u8 0, .int .u8 0, .int .u8 0, .int .u8 0, .int .u8 0, .int .u8 0, .int .u8 0, .int .u8 0, .int .u8 0, .int .u8 0, .int .u8 0, .int .u8 0, .int .u8 0, .int .u8 0, .int .u8 0, .int .u8 0, .int .u8 0, .int .u8 0, .int .u8 0, .int .u8 0, .int .u8 0, .int .u8 0, .int .u8 0, .int .u8 0, .int .u8 0, .int .u8 0, .int .u8 0, .int .u8 0, .int .u8 0]], []⟩ 8 (by kernel_rfl) (by kernel_rfl) (by kernel_rfl) (by kernel_rfl)) ?_
  intro W base args ds gs before hval0 hW _ _
  have hval : ∀ (j : Nat) t v, Try.f3.params[j]? = some t → args[j]? = some v → Value.okWide Try.prog W .any base t v := hval0
  have hW' := hW
  obtain ⟨p, q, hA0, _, _, _, _⟩ := hW
  have hA : DataW.TrodAll enc Try.prog W 0 (fun _ => true) true Try.f3.params.toList args.toList ds p := hA0
  rw [Try.params3] at hA hval
  obtain ⟨v0, vs0, d0, ds0, p0, q0, hargs, rfl, rfl, h0, r0⟩ := trodAll_cons hA
  obtain ⟨rfl, rfl, rfl⟩ := trodAll_nil r0
  obtain rfl : args = #[v0] := by cases args; simp_all
  obtain ⟨h, hl, hb, rfl⟩ := open_hash Try.underlying23 Try.underlying5 cells_u8 cells_hash (hval 0 23 v0 rfl rfl) h0
  refine (shaTexts_walk h hl hb W).mono fun e W' ⟨he, bel⟩ => ⟨_, he, ?_⟩
  exact law_post (tb := 4) laidOut (by kernel_rfl) Try.underlying4 rfl rfl (fun ds h => match ds, h with | [d], _ => rfl) hW' bel
theorem shaTexts_over : Rows.shaTextsRow.holds Try.pinned (OpenSpec.ofChange Rows.shaTextsSpec) :=
  OpenClaim.holds_of_wide 3 Try.f3 rfl rfl rfl rfl rfl rfl rfl ⟨rfl, rfl, rfl, rfl, rfl⟩ rfl rfl rfl rfl rfl (by kernel_rfl) Try.func3 (by kernel_rfl)
    (of_decide_eq_true (by kernel_rfl)) (by unfold Func.isWrapper; first | (rw [if_pos (by decide +kernel)]; kernel_rfl) | (rw [if_neg (by decide +kernel)]; exact ⟨rfl, rfl⟩))
    (fun os started H enc _ => shaTexts_lifted os started H enc)
theorem shaTexts_holds : Rows.ShaTextsSaid := shaTexts_over
#print axioms shaTexts_holds
end Go.Proofs.Ytjlkakggmfmfiaa
