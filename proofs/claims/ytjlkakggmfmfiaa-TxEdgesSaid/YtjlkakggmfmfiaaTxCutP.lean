/- A transaction's bytes cut short are none: plain law. -/
import Derived.Test.YtjlkakggmfmfiaaTxPure
set_option maxRecDepth 100000
set_option linter.unusedVariables false
namespace Go.Proofs.Ytjlkakggmfmfiaa
open Go Go.RowKit
theorem PSt.take_e {p : PSt} {n : Nat} (h : (p.take n).e = 0) : p.e = 0 ∧ n ≤ p.bs.length ∧ p.take n = ⟨p.bs.drop n, 0⟩ := by
  unfold PSt.take at h ⊢
  by_cases h1 : p.e = 0
  · rw [if_pos h1] at h ⊢
    by_cases h2 : n ≤ p.bs.length
    · rw [if_pos h2] at h ⊢
      exact ⟨h1, h2, rfl⟩
    · rw [if_neg h2] at h
      cases h
  · rw [if_neg h1] at h
    exact absurd h h1
theorem PSt.take_bad {p : PSt} (h : p.e ≠ 0) (n : Nat) : p.take n = p := by unfold PSt.take; rw [if_neg h]
theorem PSt.count_bad {p : PSt} (h : p.e ≠ 0) (m : Nat) : p.count m = p := by unfold PSt.count; rw [if_pos h]
theorem PSt.text_bad {p : PSt} (h : p.e ≠ 0) : p.text = p := by
  unfold PSt.text
  rw [PSt.count_bad h, PSt.take_bad h]
theorem PSt.count_e {p : PSt} {m : Nat} (h : (p.count m).e = 0) : p.e = 0 ∧ ∃ x k, expF p.bs = (x, k, 0) ∧ x ≤ (m : Int) ∧ p.countV m = x.toNat ∧ p.count m = ⟨p.bs.drop k, 0⟩ := by
  obtain ⟨x, k, e, hx⟩ : ∃ x k e, expF p.bs = (x, k, e) := ⟨_, _, _, rfl⟩
  by_cases h1 : p.e = 0
  · by_cases h2 : e = 0
    · subst h2
      have hC : p.count m = if (m : Int) < x then ⟨p.bs, 2⟩ else ⟨p.bs.drop k, 0⟩ := by unfold PSt.count; rw [hx]; simp [h1]
      have hV : p.countV m = if (m : Int) < x then 0 else x.toNat := by unfold PSt.countV; rw [hx]; simp [h1]
      by_cases h3 : (m : Int) < x
      · rw [hC, if_pos h3] at h; cases h
      · rw [hC, hV, if_neg h3, if_neg h3]
        exact ⟨h1, x, k, hx, by omega, rfl, rfl⟩
    · have hC : p.count m = ⟨p.bs, e⟩ := by unfold PSt.count; rw [hx]; simp [h1, h2]
      rw [hC] at h
      exact absurd h h2
  · have hC : p.count m = p := by unfold PSt.count; rw [if_pos h1]
    rw [hC] at h
    exact absurd h h1
theorem PSt.text_e {p : PSt} (h : p.text.e = 0) : (p.count 10000).e = 0 ∧ p.e = 0 := by
  have h1 := (PSt.take_e (p := p.count 10000) h).1
  exact ⟨h1, (PSt.count_e h1).1⟩
/-- q has run the same way as p over bytes of which the last, c, are lacking; or it has come to their end. -/
def Cut (c : List Int) (p q : PSt) : Prop := q.e = 8 ∨ (q.e = 0 ∧ p.bs = q.bs ++ c)
theorem Cut.take {c : List Int} {p q : PSt} (h : Cut c p q) {n : Nat} (hp : (p.take n).e = 0) : Cut c (p.take n) (q.take n) := by
  obtain ⟨h0, hn, hT⟩ := PSt.take_e hp
  rcases h with h | ⟨h, hb⟩
  · left
    rw [PSt.take_bad (by omega)]
    exact h
  · rw [hT]
    unfold PSt.take
    rw [if_pos h]
    by_cases h2 : n ≤ q.bs.length
    · rw [if_pos h2]
      exact .inr ⟨rfl, by simp only; rw [hb, List.drop_append_of_le_length h2]⟩
    · rw [if_neg h2]
      exact .inl rfl
theorem expF_pre {a c : List Int} {x : Int} {k : Nat} (h : expF (a ++ c) = (x, k, 0)) : (expF a = (x, k, 0) ∧ k ≤ a.length) ∨ (expF a).2.2 = 8 := by
  rcases a with _ | ⟨b, a⟩
  · exact .inr rfl
  · rw [List.cons_append] at h
    simp only [expF] at h ⊢
    by_cases h1 : b < 253
    · rw [if_pos h1] at h ⊢
      simp only [Prod.mk.injEq] at h
      exact .inl ⟨by rw [← h.1, ← h.2.1], by rw [← h.2.1, List.length_cons]; omega⟩
    · rw [if_neg h1] at h ⊢
      by_cases h2 : a.length < sizF b
      · rw [if_pos h2]
        exact .inr rfl
      · have ht : (a ++ c).take (sizF b) = a.take (sizF b) := List.take_append_of_le_length (by omega)
        rw [if_neg (by rw [List.length_append]; omega), ht] at h
        rw [if_neg h2]
        refine .inl ⟨h, ?_⟩
        split at h
        · simp at h
        · simp only [Prod.mk.injEq] at h
          rw [← h.2.1, List.length_cons]
          omega
theorem Cut.count {c : List Int} {p q : PSt} (h : Cut c p q) {m : Nat} (hp : (p.count m).e = 0) : Cut c (p.count m) (q.count m) ∧ ((q.count m).e = 0 → q.countV m = p.countV m) := by
  obtain ⟨h0, x, k, hx, hm, hV, hC⟩ := PSt.count_e hp
  rcases h with h | ⟨h, hb⟩
  · have : (q.count m).e = 8 := by rw [PSt.count_bad (by omega)]; exact h
    exact ⟨.inl this, fun e => by omega⟩
  · rw [hb] at hx
    rcases expF_pre hx with ⟨hq, hk⟩ | hq
    · have h1 : q.count m = ⟨q.bs.drop k, 0⟩ := by
        unfold PSt.count
        rw [if_neg (by simp [h]), hq]
        simp only
        rw [if_neg (by simp), if_neg (by omega)]
      have h2 : q.countV m = x.toNat := by
        unfold PSt.countV
        rw [if_neg (by simp [h]), hq]
        simp only
        rw [if_neg (by simp), if_neg (by omega)]
      rw [h1, hC, h2, hV]
      exact ⟨.inr ⟨rfl, by simp only; rw [hb, List.drop_append_of_le_length hk]⟩, fun _ => rfl⟩
    · have h1 : q.count m = ⟨q.bs, 8⟩ := by
        unfold PSt.count
        rw [if_neg (by simp [h]), if_pos (by rw [hq]; decide), hq]
      rw [h1]
      exact ⟨.inl rfl, fun e => by cases e⟩
theorem Cut.text {c : List Int} {p q : PSt} (h : Cut c p q) (hp : p.text.e = 0) : Cut c p.text q.text := by
  have h1 := (PSt.text_e hp).1
  obtain ⟨h2, h3⟩ := h.count h1
  by_cases h4 : (q.count 10000).e = 0
  · unfold PSt.text
    rw [h3 h4]
    exact h2.take hp
  · left
    unfold PSt.text
    rw [PSt.take_bad h4]
    rcases h2 with h2 | h2
    · exact h2
    · exact absurd h2.1 h4
theorem Cut.bad {c : List Int} {p q : PSt} (h : Cut c p q) (hq : q.e ≠ 0) : q.e = 8 := by
  rcases h with h | h
  · exact h
  · exact absurd h.1 hq
theorem Cut.loop {α : Type} (f : PSt → α × PSt) (H1 : ∀ p, (f p).2.e = 0 → p.e = 0) (c : List Int) (H2 : ∀ p q, Cut c p q → (f p).2.e = 0 → Cut c (f p).2 (f q).2) : ∀ (n : Nat) (p q : PSt) (m : Nat), Cut c p q → (loopP f n p).2.e = 0 → (q.e = 0 → m = n) →
    Cut c (loopP f n p).2 (loopP f m q).2
  | n, p, q, m, h, hp, hm => by
    by_cases hq : q.e = 0
    · have := hm hq
      subst this
      cases m with
      | zero => exact h
      | succ m =>
        rw [loopP] at hp ⊢
        by_cases h1 : p.e = 0
        · rw [if_neg (by simp [h1])] at hp ⊢
          rw [loopP, if_neg (by simp [hq])]
          have h2 : (f p).2.e = 0 := by
            by_cases h3 : (f p).2.e = 0
            · exact h3
            · simp only at hp
              rw [loopP_bad f m _ h3] at hp
              exact hp
          exact Cut.loop f H1 c H2 m (f p).2 (f q).2 m (H2 p q h h2) hp (fun _ => rfl)
        · rw [if_pos h1] at hp
          exact absurd hp h1
    · left
      rw [loopP_bad f m q hq]
      exact h.bad hq
theorem loopP_e {α : Type} (f : PSt → α × PSt) (n : Nat) (p : PSt) (h : (loopP f n p).2.e = 0) : p.e = 0 := by
  by_cases h1 : p.e = 0
  · exact h1
  · rw [loopP_bad f n p h1] at h
    exact h
theorem loopP_len {α : Type} (f : PSt → α × PSt) : ∀ (n : Nat) (p : PSt), (loopP f n p).2.e = 0 → (loopP f n p).1.length = n
  | 0, _, _ => rfl
  | n + 1, p, h => by
    rw [loopP] at h ⊢
    by_cases h1 : p.e = 0
    · rw [if_neg (by simp [h1])] at h ⊢
      simp only [List.length_cons]
      rw [loopP_len f n _ h]
    · rw [if_pos h1] at h
      exact absurd h h1
theorem inP1_e (p : PSt) (h : (inP1 p).2.e = 0) : (((p.take 32).take 4).text).e = 0 ∧ ((p.take 32).take 4).e = 0 ∧ (p.take 32).e = 0 ∧ p.e = 0 := by
  have h1 := (PSt.take_e (p := ((p.take 32).take 4).text) h).1
  have h2 := (PSt.text_e h1).2
  have h3 := (PSt.take_e h2).1
  exact ⟨h1, h2, h3, (PSt.take_e h3).1⟩
theorem inP1_cut (c : List Int) (p q : PSt) (h : Cut c p q) (hp : (inP1 p).2.e = 0) : Cut c (inP1 p).2 (inP1 q).2 := by
  obtain ⟨h1, h2, h3, h4⟩ := inP1_e p hp
  exact Cut.take (Cut.text (Cut.take (Cut.take h h3) h2) h1) hp
theorem outP1_e (p : PSt) (h : (outP1 p).2.e = 0) : (p.take 8).e = 0 ∧ p.e = 0 := by
  have h2 := (PSt.text_e (p := p.take 8) h).2
  exact ⟨h2, (PSt.take_e h2).1⟩
theorem outP1_cut (c : List Int) (p q : PSt) (h : Cut c p q) (hp : (outP1 p).2.e = 0) : Cut c (outP1 p).2 (outP1 q).2 :=
  Cut.text (Cut.take h (outP1_e p hp).1) hp
theorem witF_cut (c : List Int) (p q : PSt) (h : Cut c p q) (hp : (witF p).2.e = 0) : Cut c (witF p).2 (witF q).2 := Cut.text h hp
theorem witP1_e (p : PSt) (h : (witP1 p).2.e = 0) : (p.count 100).e = 0 ∧ p.e = 0 := by
  unfold witP1 at h
  rw [witsP_eq] at h
  have := loopP_e _ _ _ h
  exact ⟨this, (PSt.count_e this).1⟩
theorem witP1_cut (c : List Int) (p q : PSt) (h : Cut c p q) (hp : (witP1 p).2.e = 0) : Cut c (witP1 p).2 (witP1 q).2 := by
  have h1 := (witP1_e p hp).1
  obtain ⟨h2, h3⟩ := h.count h1
  unfold witP1 at hp ⊢
  rw [witsP_eq] at hp ⊢
  rw [witsP_eq]
  exact Cut.loop witF (fun p h => (PSt.text_e h).2) c (witF_cut c) _ _ _ _ h2 hp h3
theorem witP1_bad (p : PSt) (h : p.e ≠ 0) : (witP1 p).2 = p := by
  unfold witP1
  rw [PSt.count_bad h, witsP_eq, loopP_bad _ _ _ h]
theorem allW_bad : ∀ (xs : List TIn) (p : PSt), p.e ≠ 0 → (allW xs p).2 = p
  | [], _, _ => rfl
  | x :: xs, p, h => by
    rw [allW]
    simp only
    rw [witP1_bad p h, allW_bad xs p h]
theorem allW_cut (c : List Int) : ∀ (xs ys : List TIn) (p q : PSt), (q.e = 0 → ys.length = xs.length) → Cut c p q → (allW xs p).2.e = 0 → Cut c (allW xs p).2 (allW ys q).2
  | xs, ys, p, q, hl, h, hp => by
    by_cases hq : q.e = 0
    · have hl := hl hq
      cases xs with
      | nil =>
        obtain rfl := List.eq_nil_of_length_eq_zero hl
        exact h
      | cons x xs =>
        cases ys with
        | nil => simp at hl
        | cons y ys =>
          rw [allW] at hp ⊢
          rw [allW]
          have h2 : (witP1 p).2.e = 0 := by
            by_cases h3 : (witP1 p).2.e = 0
            · exact h3
            · simp only at hp
              rw [allW_bad xs _ h3] at hp
              exact hp
          exact allW_cut c xs ys (witP1 p).2 (witP1 q).2 (fun _ => by simpa using hl) (witP1_cut c p q h h2) hp
    · left
      rw [allW_bad ys q hq]
      exact h.bad hq
theorem rI_bad (p : PSt) (h : p.e ≠ 0) : (rI p).2 = p := by
  unfold rI
  rw [PSt.count_bad h, insP_eq, loopP_bad _ _ _ h]
theorem rO_bad (p : PSt) (h : (rI p).2.e ≠ 0) : (rO p).2 = (rI p).2 := by
  unfold rO
  rw [PSt.count_bad h, outsP_eq, loopP_bad _ _ _ h]
theorem rW_bad (w : Bool) (p : PSt) (h : (rO p).2.e ≠ 0) : (rW w p).2 = (rO p).2 := by
  unfold rW
  cases w
  · rfl
  · exact allW_bad _ _ h
theorem r9_e (w : Bool) (p : PSt) (h : (r9 w p).e = 0) : (rW w p).2.e = 0 ∧ (rO p).2.e = 0 ∧ (rI p).2.e = 0 ∧ (p.count 1024).e = 0 ∧ ((rI p).2.count 1024).e = 0 := by
  have h1 := (PSt.take_e (p := (rW w p).2) h).1
  have h2 : (rO p).2.e = 0 := by
    by_cases h3 : (rO p).2.e = 0
    · exact h3
    · rw [rW_bad w p h3] at h1; exact h1
  have h3 : (rI p).2.e = 0 := by
    by_cases h4 : (rI p).2.e = 0
    · exact h4
    · rw [rO_bad p h4] at h2; exact h2
  refine ⟨h1, h2, h3, ?_, ?_⟩
  · unfold rI at h3
    rw [insP_eq] at h3
    exact loopP_e _ _ _ h3
  · unfold rO at h2
    rw [outsP_eq] at h2
    exact loopP_e _ _ _ h2
theorem Cut.run {c : List Int} {p q : PSt} (h : Cut c p q) (w : Bool) (hp : (r9 w p).e = 0) : Cut c (r9 w p) (r9 w q) := by
  obtain ⟨h1, h2, h3, h4, h5⟩ := r9_e w p hp
  obtain ⟨a1, a2⟩ := h.count h4
  have hI : Cut c (rI p).2 (rI q).2 := by
    unfold rI at h3 ⊢
    rw [insP_eq] at h3 ⊢
    rw [insP_eq]
    exact Cut.loop inP1 (fun p h => (inP1_e p h).2.2.2) c (inP1_cut c) _ _ _ _ a1 h3 a2
  obtain ⟨b1, b2⟩ := hI.count h5
  have hO : Cut c (rO p).2 (rO q).2 := by
    unfold rO at h2 ⊢
    rw [outsP_eq] at h2 ⊢
    rw [outsP_eq]
    exact Cut.loop outP1 (fun p h => (outP1_e p h).2) c (outP1_cut c) _ _ _ _ b1 h2 b2
  refine Cut.take (p := (rW w p).2) (q := (rW w q).2) ?_ hp
  cases w
  · exact hO
  · refine allW_cut c (rI p).1 (rI q).1 _ _ (fun he => ?_) hO h1
    have e1 : (rI q).2.e = 0 := by
      by_cases h6 : (rI q).2.e = 0
      · exact h6
      · rw [rO_bad q h6] at he; exact he
    have e2 : (q.count 1024).e = 0 := by
      unfold rI at e1
      rw [insP_eq] at e1
      exact loopP_e _ _ _ e1
    have l1 : (rI p).1.length = p.countV 1024 := by
      unfold rI at h3 ⊢
      rw [insP_eq] at h3 ⊢
      exact loopP_len _ _ _ h3
    have l2 : (rI q).1.length = q.countV 1024 := by
      unfold rI at e1 ⊢
      rw [insP_eq] at e1 ⊢
      exact loopP_len _ _ _ e1
    rw [l1, l2, a2 e2]
theorem r9_bad (w : Bool) (p : PSt) (h : p.e ≠ 0) : r9 w p = p := by
  have h1 := rI_bad p h
  have h2 := rO_bad p (by rw [h1]; exact h)
  have h3 := rW_bad w p (by rw [h2, h1]; exact h)
  unfold r9
  rw [h3, h2, h1, PSt.take_bad h]
/-- Cut short at any length: too few bytes. -/
theorem dec_cut {t : TTx} (hok : t.Ok) (hb : Bounds t) (hl : (encF t).length ≤ 65536) (n : Nat) (hn : n < (encF t).length) : decE ((encF t).take n) = 8 := by
  have hfull := (dec_enc hok hb hl []).2.2.2
  rw [List.append_nil] at hfull
  have hc : (encF t).drop n ≠ [] := by
    intro h
    have := congrArg List.length h
    rw [List.length_drop, List.length_nil] at this
    omega
  have hq0 : (encF t).take 65536 = encF t := List.take_of_length_le hl
  have hq1 : ((encF t).take n).take 65536 = (encF t).take n := List.take_of_length_le (by rw [List.length_take]; omega)
  have hC0 : Cut ((encF t).drop n) (⟨encF t, 0⟩ : PSt) ⟨(encF t).take n, 0⟩ := .inr ⟨rfl, (List.take_append_drop _ _).symm⟩
  have h9 : (decP9 ((encF t).take n)).e = 8 := by
    rw [decP9_eq] at hfull ⊢
    have hr : (r9 (decW (encF t)) (decP2 (encF t))).e = 0 := by rw [hfull]
    have fin : ∀ (w : Bool) (q : PSt), w = decW (encF t) → Cut ((encF t).drop n) (decP2 (encF t)) q → (r9 w q).e = 8 := by
      intro w q hw hq
      subst hw
      rcases hq.run _ hr with h | ⟨h, h'⟩
      · exact h
      · rw [hfull] at h'
        simp only [List.take_nil] at h'
        exact absurd (List.append_eq_nil_iff.1 h'.symm).2 hc
    obtain ⟨p1, hp1⟩ : ∃ p1, (⟨encF t, 0⟩ : PSt).take 4 = p1 := ⟨_, rfl⟩
    obtain ⟨q1, hq1'⟩ : ∃ q1, (⟨(encF t).take n, 0⟩ : PSt).take 4 = q1 := ⟨_, rfl⟩
    have hDp : decP2 (encF t) = if decW (encF t) then p1.take 2 else p1 := by unfold decP2; rw [hq0, hp1]
    have hDq : decP2 ((encF t).take n) = if decW ((encF t).take n) then q1.take 2 else q1 := by unfold decP2; rw [hq1, hq1']
    have hWp : decW (encF t) = decide (p1.e = 0 ∧ 2 ≤ p1.bs.length ∧ rd p1.bs 0 = 0 ∧ rd p1.bs 1 = 1) := by unfold decW; rw [hq0, hp1]
    have hWq : decW ((encF t).take n) = decide (q1.e = 0 ∧ 2 ≤ q1.bs.length ∧ rd q1.bs 0 = 0 ∧ rd q1.bs 1 = 1) := by unfold decW; rw [hq1, hq1']
    have hp2e : (decP2 (encF t)).e = 0 := by
      by_cases h : (decP2 (encF t)).e = 0
      · exact h
      · rw [r9_bad _ _ h] at hr; exact hr
    have hp1e : p1.e = 0 := by
      rw [hDp] at hp2e
      split at hp2e
      · exact (PSt.take_e hp2e).1
      · exact hp2e
    have hC1 : Cut ((encF t).drop n) p1 q1 := by
      rw [← hp1, ← hq1']
      exact hC0.take (by rw [hp1]; exact hp1e)
    by_cases hqe : q1.e = 0
    · obtain ⟨_, hbs⟩ : q1.e = 0 ∧ p1.bs = q1.bs ++ (encF t).drop n := by
        rcases hC1 with h | h
        · omega
        · exact h
      by_cases h2 : 2 ≤ q1.bs.length
      · have r0 : rd p1.bs 0 = rd q1.bs 0 := by rw [hbs]; simp only [rd, List.getD_eq_getElem?_getD]; rw [List.getElem?_append_left (by omega)]
        have r1 : rd p1.bs 1 = rd q1.bs 1 := by rw [hbs]; simp only [rd, List.getD_eq_getElem?_getD]; rw [List.getElem?_append_left (by omega)]
        have hww : decW ((encF t).take n) = decW (encF t) := by
          rw [hWp, hWq, r0, r1]
          congr 1
          have : 2 ≤ p1.bs.length := by rw [hbs, List.length_append]; omega
          simp only [hqe, hp1e, h2, this]
        refine fin _ _ hww ?_
        rw [hDp, hDq, hww]
        rw [hDp] at hp2e
        split
        · rename_i hw
          rw [if_pos hw] at hp2e
          exact hC1.take hp2e
        · exact hC1
      · have hWq' : decW ((encF t).take n) = false := by rw [hWq]; exact decide_eq_false (fun h => h2 h.2.1)
        rw [hDq, hWq']
        simp only [Bool.false_eq_true, if_false]
        by_cases hw : decW (encF t) = true
        · rw [hWp, decide_eq_true_eq] at hw
          have hq : q1 = ⟨[], 0⟩ ∨ q1 = ⟨[0], 0⟩ := by
            obtain ⟨b, e⟩ := q1
            simp only at hqe hbs h2
            subst hqe
            rcases b with _ | ⟨x, _ | ⟨y, r⟩⟩
            · exact .inl rfl
            · right
              have h0 := hw.2.2.1
              rw [hbs] at h0
              have : x = 0 := h0
              rw [this]
            · simp at h2
          rcases hq with rfl | rfl
          · rfl
          · rfl
        · rw [Bool.not_eq_true] at hw
          refine fin false q1 hw.symm ?_
          rw [hDp, hw]
          exact hC1
    · have h8 := hC1.bad hqe
      have hWq' : decW ((encF t).take n) = false := by rw [hWq]; exact decide_eq_false (fun h => hqe h.1)
      rw [hDq, hWq']
      simp only [Bool.false_eq_true, if_false]
      rw [r9_bad _ _ hqe, h8]
  have hlen : ((encF t).take n).length ≤ 65536 := by rw [List.length_take]; omega
  have h1 : decE1 ((encF t).take n) = 8 := by
    unfold decE1
    rw [h9, if_neg (fun h => by omega)]
  unfold decE
  rw [h1, if_neg (fun h => by cases h.1)]
end Go.Proofs.Ytjlkakggmfmfiaa
