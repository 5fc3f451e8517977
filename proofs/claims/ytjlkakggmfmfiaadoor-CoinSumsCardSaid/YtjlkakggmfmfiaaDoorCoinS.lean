/- Sums of coins, in plain terms: a block makes what it uses, less the fees, and its first transaction's own; the set behind it holds accordingly. -/
import Derived.Test.YtjlkakggmfmfiaaDoorApply
set_option maxRecDepth 100000
set_option linter.unusedVariables false
namespace Go.Proofs.YtjlkakggmfmfiaaDoor
open Go Go.RowKit
def tot (l : List (Pt × Cn)) : Int := (l.map (fun x => x.2.coins)).sum
def totU (us : List Us) : Int := (us.map (fun u => u.coin.coins)).sum
def totO (os : List TOut) : Int := (os.map (fun o => o.coins)).sum
theorem tot_app (a b : List (Pt × Cn)) : tot (a ++ b) = tot a + tot b := by unfold tot; rw [List.map_append, List.sum_append]
theorem totU_app (a b : List Us) : totU (a ++ b) = totU a + totU b := by unfold totU; rw [List.map_append, List.sum_append]
theorem tot_cons (x : Pt × Cn) (l : List (Pt × Cn)) : tot (x :: l) = x.2.coins + tot l := rfl
theorem totU_cons (x : Us) (l : List Us) : totU (x :: l) = x.coin.coins + totU l := rfl
theorem totO_cons (x : TOut) (l : List TOut) : totO (x :: l) = x.coins + totO l := rfl
theorem tot_perm {m o : List (Pt × Cn)} (h : m.Perm o) : tot m = tot o := by
  induction h with
  | nil => rfl
  | cons x _ ih => rw [tot_cons, tot_cons, ih]
  | swap x y l => simp only [tot_cons]; omega
  | trans _ _ i1 i2 => rw [i1, i2]
theorem tot_take {l : List (Pt × Cn)} {j : Nat} {x : Pt × Cn} (h : l[j]? = some x) : tot (l.take (j + 1)) = tot (l.take j) + x.2.coins := by
  rw [List.take_add_one, h, tot_app]
  show _ + (x.2.coins + 0) = _
  rw [Int.add_zero]
theorem totU_take {l : List Us} {j : Nat} {x : Us} (h : l[j]? = some x) : totU (l.take (j + 1)) = totU (l.take j) + x.coin.coins := by
  rw [List.take_add_one, h, totU_app]
  show _ + (x.coin.coins + 0) = _
  rw [Int.add_zero]
theorem plan_ok {m : List (Pt × Cn)} (hn : (keys m).Nodup) {hd : Hd} {ts : List TTx} {hh : Int} (h0 : 0 ≤ hh) (h1 : hh ≤ 1073741824) {d : Df} (h : planF hd ts hh 0 m = .ok d) : ∃ lw, PlanOk m ts d lw := by
  have hr := plan_law (List.Perm.refl m) hn hd ts hh h0 h1
  rw [h] at hr
  revert hr
  generalize lawF hd ts hh m = b
  intro hr
  match b, hr with
  | .ok lw, h => exact ⟨lw, h⟩
theorem cg_sum : ∀ (l : List TOut) (s z : Int), cg l s = some z → z = s + totO l
  | [], s, z, h => by
    obtain rfl := Option.some.inj h
    show s = s + 0
    omega
  | c :: r, s, z, h => by
    rw [cg] at h
    split at h
    · cases h
    · have := cg_sum r _ z h
      rw [totO_cons]
      omega
theorem outSum_tot {t : TTx} (h : okC t = true) : outSum t = totO t.outs := by
  unfold okC at h
  unfold outSum
  cases hc : cg t.outs 0 with
  | none => rw [hc] at h; cases h
  | some z =>
    have := cg_sum t.outs 0 z hc
    show z = _
    omega
theorem mkOuts_tot (id : List Int) (h : Int) (pos : Nat) : ∀ (os : List TOut) (i : Nat), tot (mkOuts id h pos i os) = totO os ∧ (mkOuts id h pos i os).length = os.length
  | [], i => ⟨rfl, rfl⟩
  | o :: r, i => by
    obtain ⟨h1, h2⟩ := mkOuts_tot id h pos r (i + 1)
    refine ⟨?_, ?_⟩
    · rw [mkOuts, tot_cons, totO_cons, h1]
      rfl
    · rw [mkOuts, List.length_cons, h2, List.length_cons]
theorem mkOuts_mem {id : List Int} {h : Int} {pos : Nat} : ∀ {os : List TOut} {i : Nat} {x : Pt × Cn}, x ∈ mkOuts id h pos i os → ∃ o ∈ os, x.2.coins = o.coins
  | [], i, x, hx => by cases hx
  | o :: r, i, x, hx => by
    rw [mkOuts] at hx
    rcases List.mem_cons.1 hx with rfl | hx
    · exact ⟨o, List.mem_cons_self, rfl⟩
    · obtain ⟨o', ho, he⟩ := mkOuts_mem hx
      exact ⟨o', List.mem_cons_of_mem _ ho, he⟩
theorem plIns_sum (made m : List (Pt × Cn)) (pos : Nat) : ∀ (ins : List TIn) (i : Nat) (sp : List (Pt × Bool)) (us : List Us) (s : Int) (sp' : List (Pt × Bool)) (us' : List Us) (s' : Int), plIns made m pos i ins sp us s = .ok (sp', us', s') → totU us' = totU us + (s' - s) ∧ us'.length = us.length + ins.length
  | [], i, sp, us, s, sp', us', s', h => by
    rw [plIns] at h
    obtain ⟨rfl, rfl, rfl⟩ : sp = sp' ∧ us = us' ∧ s = s' := by simpa using h
    exact ⟨by omega, rfl⟩
  | x :: r, i, sp, us, s, sp', us', s', h => by
    rw [plIns] at h
    split at h
    · cases h
    · rename_i c _
      split at h
      · cases h
      · split at h
        · cases h
        · obtain ⟨h1, h2⟩ := plIns_sum made m pos r _ _ _ _ _ _ _ h
          rw [totU_app] at h1
          rw [List.length_append] at h2
          refine ⟨?_, ?_⟩
          · rw [h1]
            show totU us + (c.coins + 0) + _ = _
            omega
          · rw [h2, List.length_cons]
            simp only [List.length_cons, List.length_nil]
            omega
def insN (ts : List TTx) : Nat := (ts.map (fun t => t.ins.length)).sum
def outsN (ts : List TTx) : Nat := (ts.map (fun t => t.outs.length)).sum
theorem insN_cons (t : TTx) (r : List TTx) : insN (t :: r) = t.ins.length + insN r := rfl
theorem outsN_cons (t : TTx) (r : List TTx) : outsN (t :: r) = t.outs.length + outsN r := rfl
/-- What stays as it is from one transaction to the next. -/
def keep4 (st : PlS) : Int := tot st.makes - totU st.uses + st.fees
theorem plTx_sum {h : Int} {m : List (Pt × Cn)} {pos : Nat} {t : TTx} {st st' : PlS} (hc : okC t = true) (hr : plTx h m pos t st = .ok st') :
    keep4 st' = keep4 st + (if pos = 0 then outSum t else 0) ∧ st'.uses.length ≤ st.uses.length + t.ins.length ∧ st'.makes.length = st.makes.length + t.outs.length ∧ (∀ x ∈ st'.makes, x ∈ st.makes ∨ ∃ o ∈ t.outs, x.2.coins = o.coins) := by
  have hs := outSum_tot hc
  obtain ⟨k1, k2⟩ := mkOuts_tot (idF t) h pos t.outs 0
  unfold plTx at hr
  split at hr
  · cases hr
  · split at hr
    · rename_i hp
      subst hp
      obtain rfl := Except.ok.inj hr
      refine ⟨?_, ?_, ?_, ?_⟩
      · unfold keep4 plEnd
        simp only [tot_app, k1, if_true]
        omega
      · exact Nat.le_add_right _ _
      · unfold plEnd
        simp only [List.length_append, k2]
      · intro x hx
        unfold plEnd at hx
        rcases List.mem_append.1 hx with hx | hx
        · exact Or.inl hx
        · exact Or.inr (mkOuts_mem hx)
    · rename_i hp
      split at hr
      · cases hr
      · rename_i sp us s hi
        obtain ⟨j1, j2⟩ := plIns_sum _ _ _ _ _ _ _ _ _ _ _ hi
        split at hr
        · cases hr
        · split at hr
          · cases hr
          · obtain rfl := Except.ok.inj hr
            refine ⟨?_, ?_, ?_, ?_⟩
            · unfold keep4 plEnd
              simp only [tot_app, k1, hp, if_false, j1]
              omega
            · unfold plEnd
              simp only [j2]
              omega
            · unfold plEnd
              simp only [List.length_append, k2]
            · intro x hx
              unfold plEnd at hx
              rcases List.mem_append.1 hx with hx | hx
              · exact Or.inl hx
              · exact Or.inr (mkOuts_mem hx)
theorem plTxs_sum {h : Int} {m : List (Pt × Cn)} : ∀ (r : List TTx) (pos : Nat) (st st' : PlS), (∀ t ∈ r, okC t = true) → plTxs h m pos r st = .ok st' →
    keep4 st' = keep4 st + (if pos = 0 then (match r with | [] => 0 | t :: _ => outSum t) else 0) ∧ st'.uses.length ≤ st.uses.length + insN r ∧ st'.makes.length = st.makes.length + outsN r ∧ (∀ x ∈ st'.makes, x ∈ st.makes ∨ ∃ t ∈ r, ∃ o ∈ t.outs, x.2.coins = o.coins)
  | [], pos, st, st', hc, hr => by
    rw [plTxs] at hr
    obtain rfl := Except.ok.inj hr
    refine ⟨by split <;> simp, Nat.le_refl _, rfl, fun x hx => Or.inl hx⟩
  | t :: r, pos, st, st', hc, hr => by
    rw [plTxs] at hr
    split at hr
    · cases hr
    · rename_i s1 h1
      obtain ⟨a1, a2, a3, a4⟩ := plTx_sum (hc t List.mem_cons_self) h1
      obtain ⟨b1, b2, b3, b4⟩ := plTxs_sum r (pos + 1) s1 st' (fun t ht => hc t (List.mem_cons_of_mem _ ht)) hr
      rw [if_neg (Nat.succ_ne_zero pos)] at b1
      refine ⟨by rw [b1, a1]; simp only; omega, by rw [insN_cons]; omega, by rw [outsN_cons]; omega, fun x hx => ?_⟩
      rcases b4 x hx with hx | ⟨t', ht, o, ho, he⟩
      · rcases a4 x hx with hx | ⟨o, ho, he⟩
        · exact Or.inl hx
        · exact Or.inr ⟨t, List.mem_cons_self, o, ho, he⟩
      · exact Or.inr ⟨t', List.mem_cons_of_mem _ ht, o, ho, he⟩
/-- What a plan that goes through says of its sums. -/
structure PlanSum (ts : List TTx) (d : Df) : Prop where
  sum : tot d.makes = totU d.uses - d.fees + (match ts with | [] => 0 | t :: _ => outSum t)
  uses : d.uses.length ≤ insN ts
  makes : d.makes.length = outsN ts
  mem : ∀ x ∈ d.makes, ∃ t ∈ ts, ∃ o ∈ t.outs, x.2.coins = o.coins
  okc : ∀ t ∈ ts, okC t = true
theorem plan_sum {m : List (Pt × Cn)} {hd : Hd} {ts : List TTx} {hh : Int} (h0 : 0 ≤ hh) (h1 : hh ≤ 1073741824) {d : Df} (h : planF hd ts hh 0 m = .ok d) : PlanSum ts d := by
  have hck : chkF hd ts = 0 := by
    refine Decidable.byContradiction fun hc => ?_
    unfold planF at h
    rw [if_neg (by omega), if_pos hc] at h
    cases h
  have hok := fun t ht => (chkF_txs hck t ht).2
  rw [planF_ok h0 h1 hck] at h
  split at h
  · cases h
  · rename_i st hst
    obtain rfl := Except.ok.inj h
    obtain ⟨b1, b2, b3, b4⟩ := plTxs_sum ts 0 pl0 st hok hst
    refine ⟨?_, ?_, ?_, fun x hx => ?_, hok⟩
    · unfold keep4 at b1
      rw [if_pos rfl] at b1
      have e1 : tot pl0.makes = 0 := rfl
      have e2 : totU pl0.uses = 0 := rfl
      have e3 : pl0.fees = 0 := rfl
      rw [e1, e2, e3] at b1
      simp only
      omega
    · have : pl0.uses.length = 0 := rfl
      show st.uses.length ≤ _
      omega
    · have : pl0.makes.length = 0 := rfl
      show st.makes.length = _
      omega
    · rcases b4 x hx with hx | h
      · cases hx
      · exact h
theorem tot_delAll : ∀ (us : List Us) (m : List (Pt × Cn)), (keys m).Nodup → (pts us).Nodup → (∀ u ∈ us, m.lookup u.pt = some u.coin) → tot (delAll m us) = tot m - totU us
  | [], m, _, _, _ => by
    show tot m = tot m - 0
    omega
  | u :: r, m, hm, hu, hl => by
    have h1 := tot_perm (delV_perm m (hl u List.mem_cons_self))
    rw [tot_cons] at h1
    have hu' : u.pt ∉ pts r ∧ (pts r).Nodup := List.nodup_cons.1 hu
    have h2 := tot_delAll r (delV m u.pt) ((keys_delV m u.pt).nodup hm) hu'.2 (fun x hx => by
      rw [lookup_delV m hm, if_neg (by
        intro e
        exact hu'.1 (List.mem_map.2 ⟨x, hx, by simpa using e⟩))]
      exact hl x (List.mem_cons_of_mem _ hx))
    show tot (delAll (delV m u.pt) r) = _
    rw [h2, totU_cons]
    simp only at h1
    omega
/-- The set behind a block holds accordingly. -/
theorem tot_apply {m o : List (Pt × Cn)} {ts : List TTx} {d : Df} {lw : LwS} (hn : (keys m).Nodup) (h : PlanOk m ts d lw) (hp : m.Perm o) : tot (applyF o d) = tot m + tot d.makes - totU d.uses := by
  rw [← tot_perm (applyF_perm d hn hp)]
  unfold applyF
  rw [h.put, tot_delAll d.uses _ h.nod h.once h.coin, tot_app]
theorem keepF_mem {sp : List (Pt × Bool)} : ∀ {l : List (Pt × Cn)} {x : Pt × Cn}, x ∈ keepF sp l → x ∈ l ∧ spentB sp x = false := by
  intro l x hx
  unfold keepF at hx
  have := List.mem_filter.1 hx
  exact ⟨this.1, by simpa using this.2⟩
theorem cs_u32wrap (k : Nat) (h : k ≤ 8) : IntKind.u32.wrap (k : Int) = (k : Int) := by
  unfold IntKind.wrap
  simp [IntKind.signed, IntKind.bits]
  omega
theorem ins_txB (s : Int) (i : Nat) (p : TPay) (all : List Pt) (h : p.1.length ≤ 6) : (txB s i p all).ins.length ≤ 6 := by
  show (if i = 0 then [firstB s] else insB all p.1).length ≤ 6
  split
  · simp
  · unfold insB
    split
    · simp
    · rw [List.length_map]; exact h
theorem outs_txB (s : Int) (i : Nat) (p : TPay) (all : List Pt) : (txB s i p all).outs.length = p.2.1.length := by
  show (p.2.1.map ouB).length = _
  rw [List.length_map]
theorem coins_txB (s : Int) (i : Nat) (p : TPay) (all : List Pt) : ∀ o ∈ (txB s i p all).outs, 0 ≤ o.coins ∧ o.coins ≤ 65535 := by
  intro o ho
  have ho : o ∈ p.2.1.map ouB := ho
  obtain ⟨g, _, rfl⟩ := List.mem_map.1 ho
  have h1 := Int.emod_nonneg g.1 (show (65536 : Int) ≠ 0 by decide)
  have h2 := Int.emod_lt_of_pos g.1 (show (0 : Int) < 65536 by decide)
  exact ⟨h1, by show g.1 % 65536 ≤ 65535; omega⟩
theorem bldT_sums (s : Int) : ∀ (pays : List TPay) (i : Nat) (all : List Pt), (∀ p ∈ pays, p.1.length ≤ 6 ∧ p.2.1.length ≤ 6) →
    insN (bldT s i pays all).1 ≤ 6 * pays.length ∧ outsN (bldT s i pays all).1 ≤ 6 * pays.length ∧ (bldT s i pays all).2.length ≤ all.length + 6 * pays.length ∧ (bldT s i pays all).1.length = pays.length ∧ ∀ t ∈ (bldT s i pays all).1, ∀ o ∈ t.outs, 0 ≤ o.coins ∧ o.coins ≤ 65535
  | [], i, all, _ => ⟨Nat.le_refl _, Nat.le_refl _, Nat.le_refl _, rfl, fun t ht => by cases ht⟩
  | p :: r, i, all, h => by
    obtain ⟨q1, q2⟩ := h p List.mem_cons_self
    have e1 := ins_txB s i p all q1
    have e2 := outs_txB s i p all
    have e3 : (ptsB (txB s i p all)).length = (txB s i p all).outs.length := by unfold ptsB; simp
    obtain ⟨a1, a2, a3, a4, a5⟩ := bldT_sums s r (i + 1) (all ++ ptsB (txB s i p all)) (fun x hx => h x (List.mem_cons_of_mem _ hx))
    rw [List.length_append] at a3
    rw [bldT]
    refine ⟨?_, ?_, ?_, ?_, fun t ht => ?_⟩
    · show insN (_ :: _) ≤ _
      rw [insN_cons, List.length_cons]
      omega
    · show outsN (_ :: _) ≤ _
      rw [outsN_cons, List.length_cons]
      omega
    · show List.length (bldT s (i + 1) r _).2 ≤ _
      rw [List.length_cons]
      omega
    · show List.length (_ :: _) = _
      rw [List.length_cons, a4, List.length_cons]
    · rcases List.mem_cons.1 ht with rfl | ht
      · exact coins_txB s i p all
      · exact a5 t ht
end Go.Proofs.YtjlkakggmfmfiaaDoor
