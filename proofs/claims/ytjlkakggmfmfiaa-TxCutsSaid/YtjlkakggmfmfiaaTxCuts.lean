/- TxCuts: for every transaction and every length, the law's call returns true and changes nothing: a transaction cut short is none. -/
import Derived.Test.YtjlkakggmfmfiaaBig07
import Derived.Test.YtjlkakggmfmfiaaCameTx
import Derived.Test.YtjlkakggmfmfiaaMask
import Derived.Test.YtjlkakggmfmfiaaRows
set_option maxRecDepth 100000
set_option linter.unusedVariables false
namespace Go.Proofs.Ytjlkakggmfmfiaa
open Go Go.RowKit
theorem txK_okT {S : Nat → Prop} {w : World} {t : TTx} {cs : List Value} (h : txK.K S w t cs) : t.Ok := by
  have hi := tx_ids h
  obtain ⟨A1, n1, c1, A2, n2, c2, _, hv, hl, _, _, _, _, hI, hO⟩ := h
  refine ⟨hv.1, hv.2, hl.1, hl.2, hi, fun x hx => ?_⟩
  obtain ⟨i, hi, rfl⟩ := List.mem_iff_getElem.1 hx
  obtain ⟨b, o, hA, _, _, hc⟩ := hO.2 (by have := hO.1; omega)
  obtain ⟨cs, hK, _⟩ := hc i _ (List.getElem?_eq_getElem hi)
  exact hK.2
theorem encErr_zero {t : TTx} (h : encErr t = 0) : Bounds t ∧ (encF t).length ≤ 65536 := by
  unfold encErr at h
  split at h
  · rename_i h1
    exact absurd h h1
  · rename_i h1
    have h1 : checkF t = 0 := Decidable.byContradiction h1
    refine ⟨checkF_zero h1, ?_⟩
    split at h
    · cases h
    · rename_i h2
      unfold encF
      omega
theorem encF_pos (t : TTx) : 4 ≤ (encF t).length := by
  unfold encF layF
  simp only [List.length_append, leF_length]
  omega
set_option maxHeartbeats 4000000 in
theorem txCuts_walk (w : World) (t : TTx) (cs : List Value) (hK : txK.K (· < w.heap.size) w t cs) (a : Int) :
    Calls Try.prog 7 #[.agg cs.toArray, .int .i64 a] w fun e w' => e = .returned (.bool true) ∧ Below w.heap.size w w' := by
  have hU := Try.underlying35
  have hiA := txK_sizeA hK
  have hok := txK_okT hK
  have hb0 : Below w.heap.size w (w.alloc (.cells cs.toArray 35)) := (Below.refl _ _).alloc (Nat.le_refl _) _
  have hg0 := heap_alloc_new w (.cells cs.toArray 35)
  go_enter Try.func7, Try.ntmps7
  go_upto_region 1 with fail
  refine wp_gen (q := fun wi => Below w.heap.size w wi ∧ wi.heap[w.heap.size]? = some (.cells cs.toArray 35)) ⟨hb0, hg0⟩ (fun w0 hw => ?_)
  clear hb0 hg0
  obtain ⟨hb0, hg0⟩ := hw
  go_wp2_with fail
  refine (head07_calls w0).mono ?_
  rintro e w1 ⟨rfl, hb1⟩
  have hg1 := heap_below hb1 hg0
  have hB1 := below_then hb0 hb0.size hb1
  clear hg0 hb0 hb1
  go_wp2_with (first | (refine wpList_load_row rfl 35 (.tmp 2) rfl w.heap.size rfl 35 _ _ _ hg1 hU rfl hiA ?_))
  refine (big_calls w1 _ t cs (RK.K_below hK hB1)).mono ?_
  rintro e w2 ⟨b, rfl, hb2⟩
  have hg2 := heap_below hb2 hg1
  have hB2 := below_then hB1 hB1.size hb2
  clear hg1 hB1 hb2
  cases b with
  | true =>
    go_wp2
    go_ret
    exact ⟨rfl, hB2⟩
  | false =>
    go_wp2_with (first | (refine wpList_load_row rfl 35 (.tmp 2) rfl w.heap.size rfl 35 _ _ _ hg2 hU rfl hiA ?_))
    refine (enc_calls w2 _ t cs (RK.K_below hK hB2)).mono ?_
    rintro e w3 ⟨hE1, hE2, hb3⟩
    have hB3 := below_then hB2 hB2.size hb3
    by_cases he : encErr t = 0
    · obtain ⟨A, N, c, rfl, hO⟩ := hE2 he
      have hN := own_len hO
      have hpos := encF_pos t
      obtain ⟨hbd, hmax⟩ := encErr_zero he
      obtain ⟨D, rfl, hDb, hDl⟩ := own_some hO (by omega)
      have hRd := Rd.of_own hO
      have hle := own_le hO
      have hby : Bytes (encF t) := layF_bytes hok _
      have HE := Lib.hid he
      have HN := Lib.hid hN
      have hN0 : 0 < (N : Int) := by omega
      have hN1 : (N : Int) ≤ 65536 := by omega
      obtain ⟨m, hm, hmN⟩ : ∃ m : Nat, (bits .and .i64 a 1048575).tmod (N : Int) = (m : Int) ∧ m < N := by
        have h0 : 0 ≤ a % 1048576 := by omega
        have h1 := Int.emod_nonneg (a % 1048576) (show (N : Int) ≠ 0 by omega)
        have h2 := Int.emod_lt_of_pos (a % 1048576) hN0
        refine ⟨(a % 1048576 % (N : Int)).toNat, ?_, by omega⟩
        rw [i64_mask20, Int.tmod_eq_emod_of_nonneg h0, Int.toNat_of_nonneg h1]
      have hcut := dec_cut hok hbd hmax m (by omega)
      have hRm : Rd w3 (some ⟨D, 0, none⟩) m (nums .u8 ((encF t).take m)) := by
        have := hRd.take_ m (by omega)
        rwa [nums_take] at this
      have k1 := fun W => cut_head (some ⟨D, 0, none⟩) N c m (by omega) W
      have HC := Lib.hid hcut
      have hmc : m ≤ c := by omega
      clear hE1 hE2 he hN hpos hmax hO hb3 hg2 hB2 hcut hRd
      go_wp2_with fail
      refine (dec_calls w3 D 0 m c _ hmc hle.2 hRm hDl (hby.take m)).mono ?_
      rintro e w4 ⟨cs4, rfl, _, hcs, hb4⟩
      have hcs := hcs (by rw [HC.out]; decide)
      subst hcs
      rw [HC.out, if_neg (by decide)]
      have hB4 := below_then hB3 hB3.size hb4
      clear hRm hm k1 hb4 hB3
      unfold txZero
      go_wp2
      go_ret
      exact ⟨rfl, hB4.alloc hB4.size _⟩
    · obtain rfl := hE1 he
      have he' : (encErr t != 0) = true := by rw [bne_iff_ne]; exact he
      clear hE2 he
      go_wp2
      go_ret
      exact ⟨rfl, hB3⟩
/-! ### the row -/
open Go.ChangeShapes Go.WideShapes Go.ChangeAt
theorem own : ownKnob Try.prog.godebug = none := by kernel_rfl
theorem laidOut : laidOutB Try.prog = true := by kernel_rfl
theorem txCuts_lifted (os : Os) (started : os.Started) (H : Type) (enc : TypeId × Value → H) :
    ReturnsInHanded {} Try.checked os 7 .any (Rows.txCutsSpec.pre6 enc Try.prog Try.f7 Rows.txCutsRow.domain false) (Rows.txCutsSpec.post enc Try.prog Try.f7 false true false false) := by
  refine returnsInHanded_of_change (C := Try.checked) own started (by kernel_rfl) Try.func7
    (ChangeSpec.witness6 (enc := enc) (C := Try.checked) false ⟨#[], #[(.agg #[.int .i32 0, .slice none 0 0, .slice none 0 0, .int .u32 0]), .int .i64 0], []⟩ 8 (by kernel_rfl) (by kernel_rfl) (by kernel_rfl) (by kernel_rfl)) ?_
  intro W base args ds gs before hval0 hW _ _
  have hval : ∀ (j : Nat) t v, Try.f7.params[j]? = some t → args[j]? = some v → Value.okWide Try.prog W .any base t v := hval0
  have hW' := hW
  obtain ⟨p, q, hA0, _, _, _, _⟩ := hW
  have hA : DataW.TrodAll enc Try.prog W 0 (fun _ => true) true Try.f7.params.toList args.toList ds p := hA0
  rw [Try.params7] at hA hval
  obtain ⟨v0, vs0, d0, ds0, p0, q0, hargs, rfl, rfl, h0, r0⟩ := trodAll_cons hA
  obtain ⟨v1, vs1, d1, ds1, p1, q1, rfl, rfl, rfl, h1, r1⟩ := trodAll_cons r0
  obtain ⟨rfl, rfl, rfl⟩ := trodAll_nil r1
  obtain rfl : args = #[v0, v1] := by cases args; simp_all
  obtain ⟨a0, cs0, rfl, w0⟩ := open_struct Try.underlying35 came_tx (hval 0 35 v0 rfl rfl) h0
  obtain ⟨a1, rfl, rfl, rfl, w1⟩ := open_int Try.underlying3 (hval 1 3 v1 rfl rfl) h1
  refine (txCuts_walk W a0 cs0 w0 a1).mono fun e W' ⟨he, bel⟩ => ⟨_, he, ?_⟩
  exact law_post (tb := 4) laidOut (by kernel_rfl) Try.underlying4 rfl rfl (fun ds h => match ds, h with | [d0, d1], _ => rfl) hW' bel
theorem txCuts_over : Rows.txCutsRow.holds Try.pinned (OpenSpec.ofChange Rows.txCutsSpec) :=
  OpenClaim.holds_of_wide 7 Try.f7 rfl rfl rfl rfl rfl rfl rfl ⟨rfl, rfl, rfl, rfl, rfl⟩ rfl rfl rfl rfl rfl (by kernel_rfl) Try.func7 (by kernel_rfl)
    (of_decide_eq_true (by kernel_rfl)) (by unfold Func.isWrapper; first | (rw [if_pos (by decide +kernel)]; kernel_rfl) | (rw [if_neg (by decide +kernel)]; exact ⟨rfl, rfl⟩))
    (fun os started H enc _ => txCuts_lifted os started H enc)
theorem txCuts_holds : Rows.TxCutsSaid := txCuts_over
#print axioms txCuts_holds
end Go.Proofs.Ytjlkakggmfmfiaa
