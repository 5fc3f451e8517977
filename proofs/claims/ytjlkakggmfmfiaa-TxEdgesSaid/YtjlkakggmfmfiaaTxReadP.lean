/- What tx.Decode reads is laid just so: plain law. -/
import Derived.Test.YtjlkakggmfmfiaaTxCutP
set_option maxRecDepth 100000
set_option linter.unusedVariables false
namespace Go.Proofs.Ytjlkakggmfmfiaa
open Go Go.RowKit
theorem expF_inv {bs : List Int} (hb : Bytes bs) {x : Int} {k : Nat} (h : expF bs = (x, k, 0)) : bs = compF x.toNat ++ bs.drop k := by
  have hx := expF_range hb
  rw [h] at hx
  rcases bs with _ | ⟨b, r⟩
  · cases h
  have hb0 := hb b (by simp)
  have hr : Bytes r := fun y hy => hb y (List.mem_cons_of_mem _ hy)
  simp only [expF] at h
  by_cases h1 : b < 253
  · rw [if_pos h1] at h
    simp only [Prod.mk.injEq] at h
    obtain ⟨rfl, rfl, _⟩ := h
    have : compF b.toNat = [b] := by
      unfold compF
      rw [if_pos (by omega)]
      congr 1
      omega
    rw [this]
    rfl
  · rw [if_neg h1] at h
    by_cases h2 : r.length < sizF b
    · rw [if_pos h2] at h; simp at h
    · rw [if_neg h2] at h
      by_cases h3 : (compF (ofLE (r.take (sizF b))).toNat).length = 1 + sizF b
      · rw [if_neg (fun k => k h3)] at h
        simp only [Prod.mk.injEq] at h
        obtain ⟨rfl, rfl, _⟩ := h
        have hsb : 1 ≤ sizF b := by unfold sizF; split <;> (try split) <;> omega
        have hle := leF_ofLE (r.take (sizF b)) (hr.take _)
        rw [List.length_take, Nat.min_eq_left (by omega)] at hle
        simp only at hx
        rcases compF_form (ofLE (r.take (sizF b))).toNat (by omega) with ⟨g1, g2⟩ | ⟨b', s', g1, g2, g3, g4, _⟩
        · rw [g2] at h3
          simp at h3
          omega
        · rw [g1, List.length_cons, leF_length] at h3
          have hs : s' = sizF b := by omega
          subst hs
          have hbb : b' = b := by
            unfold sizF at g4
            (repeat' split at g4) <;> omega
          rw [g1, hle, hbb, List.cons_append, Nat.add_comm 1, List.drop_succ_cons, List.take_append_drop]
      · rw [if_pos h3] at h; simp at h
theorem PSt.take_inv {p : PSt} {n : Nat} (h : (p.take n).e = 0) : p.bs = p.takeB n ++ (p.take n).bs ∧ (p.takeB n).length = n := by
  obtain ⟨h0, hn, hT⟩ := PSt.take_e h
  have hB : p.takeB n = p.bs.take n := by unfold PSt.takeB; rw [if_pos ⟨h0, hn⟩]
  rw [hT, hB]
  exact ⟨(List.take_append_drop _ _).symm, by rw [List.length_take]; omega⟩
theorem PSt.count_inv {p : PSt} (hb : Bytes p.bs) {m : Nat} (h : (p.count m).e = 0) : p.bs = compF (p.countV m) ++ (p.count m).bs ∧ p.countV m ≤ m := by
  obtain ⟨h0, x, k, hx, hm, hV, hC⟩ := PSt.count_e h
  rw [hC, hV]
  exact ⟨expF_inv hb hx, by omega⟩
theorem PSt.text_inv {p : PSt} (hb : Bytes p.bs) (h : p.text.e = 0) : p.bs = textF (strOfNums p.textB) ++ p.text.bs ∧ (strOfNums p.textB).size ≤ 10000 := by
  have h1 := (PSt.text_e h).1
  obtain ⟨h2, h3⟩ := PSt.count_inv hb h1
  have h4 := PSt.take_inv (p := p.count 10000) (n := p.countV 10000) h
  have hl : p.textB.length = p.countV 10000 := h4.2
  refine ⟨?_, by rw [strOfNums_size, hl]; exact h3⟩
  unfold textF
  rw [strOfNums_size, bytesOf_strOf _ (PSt.textB_bytes hb), hl, List.append_assoc]
  have h5 : (p.count 10000).bs = p.textB ++ p.text.bs := h4.1
  rw [← h5]
  exact h2
theorem le4_back {bs : List Int} (h : Bytes bs) (hl : bs.length = 4) : leF 4 (ofLE bs).toNat = bs := by
  have := leF_ofLE bs h
  rwa [hl] at this
theorem ver_back {bs : List Int} (h : Bytes bs) (hl : bs.length = 4) : leF 4 (IntKind.i32.wrap (ofLE bs) % 4294967296).toNat = bs := by
  have h1 := le4 bs h (by omega)
  have : IntKind.i32.wrap (ofLE bs) % 4294967296 = ofLE bs := by rw [IntKind.wrap_i32]; omega
  rw [this, le4_back h hl]
theorem coins_of {bs : List Int} (h : Bytes bs) (hl : bs.length = 8) : leF 8 (IntKind.i64.wrap (ofLE bs) % 18446744073709551616).toNat = bs := by
  have h1 := ofLE_range bs h
  rw [hl] at h1
  have : IntKind.i64.wrap (ofLE bs) % 18446744073709551616 = ofLE bs := by rw [IntKind.wrap_i64]; omega
  rw [this]
  have := leF_ofLE bs h
  rwa [hl] at this
structure InGood (x : TIn) : Prop where
  ok : x.Ok
  wit : x.wit = []
  sc : x.script.size ≤ 10000
theorem inP1_inv {p : PSt} (hb : Bytes p.bs) (h : (inP1 p).2.e = 0) : p.bs = layIn (inP1 p).1 ++ (inP1 p).2.bs ∧ InGood (inP1 p).1 ∧ Bytes (inP1 p).2.bs := by
  obtain ⟨h1, h2, h3, h4⟩ := inP1_e p h
  have b1 := PSt.take_bytes hb 32
  have b2 := PSt.take_bytes b1 4
  have b3 := PSt.text_bytes b2
  have t1 := PSt.take_inv h3
  have t2 := PSt.take_inv h2
  have t3 := PSt.text_inv b2 h1
  have t4 := PSt.take_inv (p := ((p.take 32).take 4).text) (n := 4) h
  refine ⟨?_, ⟨inP1_ok hb, rfl, t3.2⟩, inP1_bytes hb⟩
  have e : layIn (inP1 p).1 = p.takeB 32 ++ ((p.take 32).takeB 4 ++ (textF (strOfNums ((p.take 32).take 4).textB) ++ (((p.take 32).take 4).text).takeB 4)) := by
    show zpad (p.takeB 32) ++ leF 4 (ofLE ((p.take 32).takeB 4)).toNat ++ textF (strOfNums ((p.take 32).take 4).textB) ++ leF 4 (ofLE ((((p.take 32).take 4).text).takeB 4)).toNat = _
    rw [zpad_full _ t1.2, le4_back (PSt.takeB_bytes b1 4) t2.2, le4_back (PSt.takeB_bytes b3 4) t4.2]
    simp only [List.append_assoc]
  rw [e]
  simp only [List.append_assoc]
  have e4 : (((p.take 32).take 4).text).bs = (((p.take 32).take 4).text).takeB 4 ++ (inP1 p).2.bs := t4.1
  rw [← e4, ← t3.1, ← t2.1]
  exact t1.1
structure OutGood (x : TOut) : Prop where
  ok : x.Ok
  sc : x.script.size ≤ 10000
theorem outP1_inv {p : PSt} (hb : Bytes p.bs) (h : (outP1 p).2.e = 0) : p.bs = layOut (outP1 p).1 ++ (outP1 p).2.bs ∧ OutGood (outP1 p).1 ∧ Bytes (outP1 p).2.bs := by
  obtain ⟨h1, h2⟩ := outP1_e p h
  have b1 := PSt.take_bytes hb 8
  have t1 := PSt.take_inv h1
  have t2 := PSt.text_inv b1 (show (p.take 8).text.e = 0 from h)
  refine ⟨?_, ⟨outP1_ok hb, t2.2⟩, outP1_bytes hb⟩
  have e : layOut (outP1 p).1 = p.takeB 8 ++ textF (strOfNums (p.take 8).textB) := by
    show leF 8 (IntKind.i64.wrap (ofLE (p.takeB 8)) % 18446744073709551616).toNat ++ _ = _
    rw [coins_of (PSt.takeB_bytes hb 8) t1.2]
    rfl
  rw [e, List.append_assoc]
  have e4 : (p.take 8).bs = textF (strOfNums (p.take 8).textB) ++ (outP1 p).2.bs := t2.1
  rw [← e4]
  exact t1.1
theorem witF_inv {p : PSt} (hb : Bytes p.bs) (h : (witF p).2.e = 0) : p.bs = textF (witF p).1 ++ (witF p).2.bs ∧ (witF p).1.size ≤ 10000 ∧ Bytes (witF p).2.bs :=
  ⟨(PSt.text_inv hb h).1, (PSt.text_inv hb h).2, PSt.text_bytes hb⟩
theorem loopP_inv {α : Type} (f : PSt → α × PSt) (lay : α → List Int) (Good : α → Prop) (H : ∀ p, Bytes p.bs → (f p).2.e = 0 → p.bs = lay (f p).1 ++ (f p).2.bs ∧ Good (f p).1 ∧ Bytes (f p).2.bs) :
    ∀ (n : Nat) (p : PSt), Bytes p.bs → (loopP f n p).2.e = 0 → p.bs = (loopP f n p).1.flatMap lay ++ (loopP f n p).2.bs ∧ (∀ x ∈ (loopP f n p).1, Good x) ∧ Bytes (loopP f n p).2.bs
  | 0, p, hb, _ => ⟨rfl, (fun x hx => by cases hx), hb⟩
  | n + 1, p, hb, h => by
    rw [loopP] at h ⊢
    by_cases h1 : p.e = 0
    · rw [if_neg (by simp [h1])] at h ⊢
      simp only at h ⊢
      have h2 := loopP_e f n _ h
      obtain ⟨a1, a2, a3⟩ := H p hb h2
      obtain ⟨c1, c2, c3⟩ := loopP_inv f lay Good H n (f p).2 a3 h
      refine ⟨?_, fun x hx => ?_, c3⟩
      · rw [List.flatMap_cons, List.append_assoc, ← c1]
        exact a1
      · rcases List.mem_cons.1 hx with rfl | hx
        · exact a2
        · exact c2 x hx
    · rw [if_pos h1] at h
      exact absurd h h1
structure WitGood (l : List ByteArray) : Prop where
  len : l.length ≤ 100
  sc : ∀ s ∈ l, s.size ≤ 10000
theorem witP1_inv {p : PSt} (hb : Bytes p.bs) (h : (witP1 p).2.e = 0) : p.bs = compF (witP1 p).1.length ++ ((witP1 p).1.flatMap textF ++ (witP1 p).2.bs) ∧ WitGood (witP1 p).1 ∧ Bytes (witP1 p).2.bs := by
  obtain ⟨h1, _⟩ := witP1_e p h
  obtain ⟨c1, c2⟩ := PSt.count_inv hb h1
  unfold witP1 at h ⊢
  rw [witsP_eq] at h ⊢
  obtain ⟨a1, a2, a3⟩ := loopP_inv witF textF (fun s => s.size ≤ 10000) (fun p hb h => witF_inv hb h) _ _ (PSt.count_bytes hb 100) h
  have hl := loopP_len _ _ _ h
  refine ⟨?_, ⟨by rw [hl]; exact c2, a2⟩, a3⟩
  rw [← a1, hl]
  exact c1
theorem allW_inv : ∀ (xs : List TIn) (p : PSt), Bytes p.bs → (∀ x ∈ xs, InGood x) → (allW xs p).2.e = 0 →
    p.bs = (allW xs p).1.flatMap layWit ++ (allW xs p).2.bs ∧ (∀ x ∈ (allW xs p).1, x.Ok ∧ x.script.size ≤ 10000 ∧ WitGood x.wit) ∧ (allW xs p).1.length = xs.length ∧ (allW xs p).1.flatMap layIn = xs.flatMap layIn ∧ Bytes (allW xs p).2.bs
  | [], p, hb, _, _ => ⟨rfl, (fun x hx => by cases hx), rfl, rfl, hb⟩
  | x :: xs, p, hb, hg, h => by
    rw [allW] at h ⊢
    simp only at h ⊢
    have h2 : (witP1 p).2.e = 0 := by
      by_cases h3 : (witP1 p).2.e = 0
      · exact h3
      · rw [allW_bad xs _ h3] at h; exact h
    obtain ⟨a1, a2, a3⟩ := witP1_inv hb h2
    obtain ⟨c1, c2, c3, c4, c5⟩ := allW_inv xs (witP1 p).2 a3 (fun y hy => hg y (List.mem_cons_of_mem _ hy)) h
    have gx := hg x (by simp)
    refine ⟨?_, fun y hy => ?_, by simp only [List.length_cons, c3], ?_, c5⟩
    · rw [List.flatMap_cons, List.append_assoc, ← c1]
      show p.bs = (compF (witP1 p).1.length ++ (witP1 p).1.flatMap textF) ++ (witP1 p).2.bs
      rw [List.append_assoc]
      exact a1
    · rcases List.mem_cons.1 hy with rfl | hy
      · refine ⟨⟨gx.ok.idl, gx.ok.idb, gx.ok.o0, gx.ok.o1, gx.ok.s0, gx.ok.s1, gx.ok.sc, fun s hs => ?_⟩, gx.sc, a2⟩
        have := a2.sc s hs
        unfold maxLen
        omega
      · exact c2 y hy
    · rw [List.flatMap_cons, List.flatMap_cons, c4]
      rfl
theorem insErr_of : ∀ (ins : List TIn), (∀ x ∈ ins, inErr x = 0) → insErr ins = 0
  | [], _ => rfl
  | x :: r, h => by
    rw [insErr, if_pos (h x (by simp))]
    exact insErr_of r (fun y hy => h y (List.mem_cons_of_mem _ hy))
theorem checkF_of {t : TTx} (h : Bounds t) : checkF t = 0 := by
  have h1 : insErr t.ins = 0 := insErr_of _ (fun x hx => by
    obtain ⟨a, b, c⟩ := h.ins x hx
    unfold inErr
    rw [if_neg (by omega), if_neg (by omega), if_neg]
    simp only [witErr, Bool.not_eq_true, List.any_eq_false, decide_eq_true_eq]
    intro s hs
    have := c s hs
    omega)
  have h2 : outsErr t.outs = false := by
    simp only [outsErr, List.any_eq_false, decide_eq_true_eq]
    intro o ho
    have := h.outs o ho
    omega
  have := h.i0
  have := h.o0
  have := h.i1
  have := h.o1
  unfold checkF
  rw [if_neg (by omega), if_neg (by omega), if_neg (fun k => k h1), if_neg (by rw [h2]; decide)]
theorem any_bare : ∀ (xs : List TIn), (∀ x ∈ xs, x.wit = []) → (xs.any fun i => decide (0 < i.wit.length)) = false
  | [], _ => rfl
  | x :: xs, h => by
    rw [List.any_cons, h x (by simp), any_bare xs (fun y hy => h y (List.mem_cons_of_mem _ hy))]
    rfl
/-- What is read is a transaction in its bounds; its bytes are those that were read. -/
theorem dec_read {bs : List Int} (hb : Bytes bs) (h : decE bs = 0) :
    Bounds (decT bs) ∧ (decT bs).Ok ∧ decN bs ≤ bs.length ∧ encF (decT bs) = bs.take (decN bs) ∧ (encF (decT bs)).length = decN bs ∧ decN bs ≤ 65536 := by
  have hE1 : decE1 bs = 0 ∧ ¬ ((decWs bs).1.length = 0 ∨ (decO bs).1.length = 0 ∨ (decW bs = true ∧ (decT bs).hasWit = false)) := by
    unfold decE at h
    split at h
    · cases h
    · rename_i hh
      exact ⟨h, fun k => hh ⟨h, k⟩⟩
  obtain ⟨hE1, hno⟩ := hE1
  have h9 : (decP9 bs).e = 0 := by
    unfold decE1 at hE1
    split at hE1
    · cases hE1
    · exact hE1
  have h9' : (r9 (decW bs) (decP2 bs)).e = 0 := h9
  obtain ⟨eW, eO, eI, ec1, ec2⟩ := r9_e _ _ h9'
  have hWs : decWs bs = rW (decW bs) (decP2 bs) := rfl
  have hOs : decO bs = rO (decP2 bs) := rfl
  have hT9 : decP9 bs = (rW (decW bs) (decP2 bs)).2.take 4 := rfl
  have hTt : decT bs = ⟨IntKind.i32.wrap (ofLE ((⟨bs.take 65536, 0⟩ : PSt).takeB 4)), (rW (decW bs) (decP2 bs)).1, (rO (decP2 bs)).1, ofLE ((rW (decW bs) (decP2 bs)).2.takeB 4)⟩ := rfl
  have hb0 : Bytes (⟨bs.take 65536, 0⟩ : PSt).bs := hb.take _
  have hb1 := PSt.take_bytes hb0 4
  obtain ⟨p1, hp1⟩ : ∃ p1, (⟨bs.take 65536, 0⟩ : PSt).take 4 = p1 := ⟨_, rfl⟩
  have hD2 : decP2 bs = if decW bs then p1.take 2 else p1 := by unfold decP2; rw [hp1]
  have hWd : decW bs = decide (p1.e = 0 ∧ 2 ≤ p1.bs.length ∧ rd p1.bs 0 = 0 ∧ rd p1.bs 1 = 1) := by unfold decW; rw [hp1]
  have e2 : (decP2 bs).e = 0 := (PSt.count_e ec1).1
  have e1 : p1.e = 0 := by
    rw [hD2] at e2
    split at e2
    · exact (PSt.take_e e2).1
    · exact e2
  have t0 := PSt.take_inv (p := ⟨bs.take 65536, 0⟩) (n := 4) (by rw [hp1]; exact e1)
  rw [hp1] at t0 hb1
  have hflag : p1.bs = (if decW bs then [0, 1] else []) ++ (decP2 bs).bs := by
    rw [hD2]
    by_cases hw : decW bs = true
    · rw [hw]
      simp only [if_true]
      rw [hWd, decide_eq_true_eq] at hw
      obtain ⟨_, h2, r0, r1⟩ := hw
      obtain ⟨b, e⟩ := p1
      simp only at e1 h2 r0 r1
      rcases b with _ | ⟨x, _ | ⟨y, r⟩⟩
      · simp at h2
      · simp at h2
      · obtain rfl : x = 0 := r0
        obtain rfl : y = 1 := r1
        unfold PSt.take
        rw [if_pos e1, if_pos h2]
        rfl
    · rw [Bool.not_eq_true] at hw
      rw [hw]
      rfl
  have hb2 : Bytes (decP2 bs).bs := by
    rw [hD2]
    split
    · exact PSt.take_bytes hb1 2
    · exact hb1
  obtain ⟨p2, hp2⟩ : ∃ p2, decP2 bs = p2 := ⟨_, rfl⟩
  obtain ⟨fl, hfl⟩ : ∃ fl, decW bs = fl := ⟨_, rfl⟩
  rw [hp2] at hflag hb2 eW eO eI ec1 ec2 hOs
  rw [hp2, hfl] at hT9 hTt hWs
  rw [hfl] at eW hflag hno
  -- inputs
  have i1 := PSt.count_inv hb2 ec1
  have hIeq : rI p2 = loopP inP1 (p2.countV 1024) (p2.count 1024) := by unfold rI; rw [insP_eq]
  have i2 := loopP_inv inP1 layIn InGood (fun p hb h => inP1_inv hb h) (p2.countV 1024) (p2.count 1024) (PSt.count_bytes hb2 _) (by rw [← hIeq]; exact eI)
  have i3 := loopP_len inP1 (p2.countV 1024) (p2.count 1024) (by rw [← hIeq]; exact eI)
  rw [← hIeq] at i2 i3
  -- outputs
  have o1 := PSt.count_inv i2.2.2 ec2
  have hOeq : rO p2 = loopP outP1 ((rI p2).2.countV 1024) ((rI p2).2.count 1024) := by unfold rO; rw [outsP_eq]
  have o2 := loopP_inv outP1 layOut OutGood (fun p hb h => outP1_inv hb h) ((rI p2).2.countV 1024) ((rI p2).2.count 1024) (PSt.count_bytes i2.2.2 _) (by rw [← hOeq]; exact eO)
  have o3 := loopP_len outP1 ((rI p2).2.countV 1024) ((rI p2).2.count 1024) (by rw [← hOeq]; exact eO)
  rw [← hOeq] at o2 o3
  -- witnesses
  have hW : (rO p2).2.bs = (if fl then (rW fl p2).1.flatMap layWit else []) ++ (rW fl p2).2.bs ∧ (∀ x ∈ (rW fl p2).1, x.Ok ∧ x.script.size ≤ 10000 ∧ WitGood x.wit) ∧ (rW fl p2).1.length = (rI p2).1.length ∧ (rW fl p2).1.flatMap layIn = (rI p2).1.flatMap layIn ∧ Bytes (rW fl p2).2.bs ∧ (fl = false → ∀ x ∈ (rW fl p2).1, x.wit = []) := by
    cases fl with
    | false =>
      refine ⟨rfl, fun x hx => ?_, rfl, rfl, o2.2.2, fun _ x hx => (i2.2.1 x hx).wit⟩
      have := i2.2.1 x hx
      exact ⟨this.ok, this.sc, by rw [this.wit]; exact ⟨by simp, fun s hs => by cases hs⟩⟩
    | true =>
      have := allW_inv (rI p2).1 (rO p2).2 o2.2.2 i2.2.1 eW
      exact ⟨this.1, this.2.1, this.2.2.1, this.2.2.2.1, this.2.2.2.2, fun h => by cases h⟩
  obtain ⟨w1, w2, w3, w4, w5, w6⟩ := hW
  have l1 := PSt.take_inv (p := (rW fl p2).2) (n := 4) (by rw [← hT9]; exact h9)
  rw [← hT9] at l1
  have hwit : (decT bs).hasWit = fl := by
    cases fl with
    | false =>
      rw [hTt]
      exact any_bare _ (w6 rfl)
    | true =>
      cases hh : (decT bs).hasWit with
      | true => rfl
      | false => exact absurd (.inr (.inr ⟨rfl, hh⟩)) hno
  have hver := ver_back (PSt.takeB_bytes hb0 4) t0.2
  have hlock := le4_back (PSt.takeB_bytes w5 4) l1.2
  have henc : bs.take 65536 = encF (decT bs) ++ (decP9 bs).bs := by
    unfold encF
    rw [hwit, layF_tail, hTt]
    simp only [tailF]
    rw [hver, w3, w4, i3, o3, hlock, ← l1.1, ← w1, ← o2.1, ← o1.1, ← i2.1, ← i1.1, ← hflag]
    exact t0.1
  have hlen := congrArg List.length henc
  rw [List.length_take, List.length_append] at hlen
  have hN : decN bs = (encF (decT bs)).length := by unfold decN; omega
  refine ⟨?_, ?_, by omega, ?_, hN.symm, by omega⟩
  · rw [hWs] at hno
    rw [hOs] at hno
    rw [hTt]
    refine ⟨?_, ?_, ?_, ?_, fun x hx => ⟨(w2 x hx).2.2.len, (w2 x hx).2.1, (w2 x hx).2.2.sc⟩, fun o ho => (o2.2.1 o ho).sc⟩
    · show 0 < (rW fl p2).1.length
      have : ¬ (rW fl p2).1.length = 0 := fun h => hno (.inl h)
      omega
    · show 0 < (rO p2).1.length
      have : ¬ (rO p2).1.length = 0 := fun h => hno (.inr (.inl h))
      omega
    · show (rW fl p2).1.length ≤ 1024
      rw [w3, i3]
      exact i1.2
    · show (rO p2).1.length ≤ 1024
      rw [o3]
      exact o1.2
  · rw [hTt]
    refine ⟨(wrap_i32_range _).1, (wrap_i32_range _).2, (le4_takeB w5).1, (le4_takeB w5).2, fun x hx => (w2 x hx).1, fun o ho => (o2.2.1 o ho).ok⟩
  · have h1 : (bs.take 65536).take (decN bs) = encF (decT bs) := by rw [henc, hN, List.take_left]
    rw [← h1, List.take_take, Nat.min_eq_left (by omega)]
end Go.Proofs.Ytjlkakggmfmfiaa
