/- Coins: what a block turns, in plain terms: by maps (the program) and by lists (the law), and that both are one. | Ranging over a map of the call's own, entry by entry, in whatever order the tape says. | Outputs (tx.Point) as a map's keys. | Coins in memory: their kinds, what is built of them, the two scripts. | What is known ahead of a block: coin.Set's two methods, the law's bad view's, and a view in plain terms. | coin.Plan: how far it is, in memory; the plain steps. -/
import Derived.Test.YtclkgflficlmiaaDoorBlkChk
import Derived.Maps.RangeWalk
import Derived.Test.YtclkgflficlmiaaDoorMapV
import Derived.Test.YtclkgflficlmiaaDoorKeyH
import Derived.Test.YtclkgflficlmiaaDoorBlkDec
import Derived.Test.YtclkgflficlmiaaDoorDecFin
/-! ## CoinP -/
section
set_option maxRecDepth 100000
set_option linter.unusedVariables false
namespace Go.Proofs.YtclkgflficlmiaaDoor
open Go Go.RowKit
/-- An output: the transaction's number, and which one. -/
abbrev Pt := List Int × Int
structure Cn where
  coins : Int
  script : List Int
  height : Int
  pos : Nat
structure Us where
  pos : Nat
  inn : Nat
  pt : Pt
  coin : Cn
structure Df where
  ids : List (List Int)
  uses : List Us
  makes : List (Pt × Cn)
  fees : Int
def TIn.pt (x : TIn) : Pt := (x.id, x.out)
/-- How far the program is. -/
structure PlS where
  made : List (Pt × Cn)
  spent : List (Pt × Bool)
  uses : List Us
  makes : List (Pt × Cn)
  fees : Int
def seek (made m : List (Pt × Cn)) (p : Pt) : Option Cn := match made.lookup p with
  | some c => some c
  | none => m.lookup p
def plIns (made m : List (Pt × Cn)) (pos : Nat) : Nat → List TIn → List (Pt × Bool) → List Us → Int → Except Int (List (Pt × Bool) × List Us × Int)
  | _, [], sp, us, s => .ok (sp, us, s)
  | i, x :: r, sp, us, s => match seek made m x.pt with
    | none => .error 22
    | some c => if (sp.lookup x.pt).getD false then .error 22 else if topM < s + c.coins then .error 24 else plIns made m pos (i + 1) r (putV sp x.pt true) (us ++ [⟨pos, i, x.pt, c⟩]) (s + c.coins)
def mkCn (o : TOut) (h : Int) (pos : Nat) : Cn := ⟨o.coins, sumF (bytesOf o.script), h, pos⟩
def mkOuts (id : List Int) (h : Int) (pos : Nat) : Nat → List TOut → List (Pt × Cn)
  | _, [] => []
  | i, o :: r => ((id, (i : Int)), mkCn o h pos) :: mkOuts id h pos (i + 1) r
def putAll (m l : List (Pt × Cn)) : List (Pt × Cn) := l.foldl (fun m x => putV m x.1 x.2) m
def outSum (t : TTx) : Int := (cg t.outs 0).getD 0
/-- Behind a transaction's inputs. -/
def plEnd (h : Int) (pos : Nat) (t : TTx) (st : PlS) (sp : List (Pt × Bool)) (us : List Us) (fees : Int) : PlS :=
  ⟨putAll st.made (mkOuts (idF t) h pos 0 t.outs), sp, us, st.makes ++ mkOuts (idF t) h pos 0 t.outs, fees⟩
def plTx (h : Int) (m : List (Pt × Cn)) (pos : Nat) (t : TTx) (st : PlS) : Except Int PlS :=
  if m.any (fun p => p.1.1 == idF t) then .error 23
  else if pos = 0 then .ok (plEnd h pos t st st.spent st.uses st.fees)
  else match plIns st.made m pos 0 t.ins st.spent st.uses 0 with
    | .error e => .error e
    | .ok (sp, us, s) => if s < outSum t then .error 24 else if topM < st.fees + (s - outSum t) then .error 24 else .ok (plEnd h pos t st sp us (st.fees + (s - outSum t)))
def plTxs (h : Int) (m : List (Pt × Cn)) : Nat → List TTx → PlS → Except Int PlS
  | _, [], st => .ok st
  | pos, t :: r, st => match plTx h m pos t st with
    | .error e => .error e
    | .ok st' => plTxs h m (pos + 1) r st'
def pl0 : PlS := ⟨[], [], [], [], 0⟩
/-- coin.Plan: a block's errors first, then the view's own, then what the transactions turn. -/
def planF (hd : Hd) (ts : List TTx) (h : Int) (eF : Int) (m : List (Pt × Cn)) : Except Int Df :=
  if h < 0 ∨ 1073741824 < h then .error 1
  else if chkF hd ts ≠ 0 then .error (chkF hd ts)
  else if eF ≠ 0 then .error eF
  else match plTxs h m 0 ts pl0 with
    | .error e => .error e
    | .ok st => .ok ⟨idsF ts, st.uses, st.makes, st.fees⟩
def delAll (m : List (Pt × Cn)) (us : List Us) : List (Pt × Cn) := us.foldl (fun m u => delV m u.pt) m
def applyF (m : List (Pt × Cn)) (d : Df) : List (Pt × Cn) := delAll (putAll m d.makes) d.uses
/-! ### by lists -/
def lwIns : List TIn → List (Pt × Cn) → List (Pt × Cn) → Int → Except Int (List (Pt × Cn) × List (Pt × Cn) × Int)
  | [], out, gone, s => .ok (out, gone, s)
  | x :: r, out, gone, s => match out.lookup x.pt with
    | none => .error 22
    | some c => if topM < s + c.coins then .error 24 else lwIns r (delV out x.pt) (gone ++ [(x.pt, c)]) (s + c.coins)
structure LwS where
  out : List (Pt × Cn)
  gone : List (Pt × Cn)
  fees : Int
def lwTx (h : Int) (all : List (Pt × Cn)) (pos : Nat) (t : TTx) (st : LwS) : Except Int LwS :=
  if all.any (fun p => p.1.1 == idF t) then .error 23
  else if pos = 0 then .ok ⟨st.out ++ mkOuts (idF t) h pos 0 t.outs, st.gone, st.fees⟩
  else match lwIns t.ins st.out st.gone 0 with
    | .error e => .error e
    | .ok (out, gone, s) => if s < outSum t then .error 24 else if topM < st.fees + (s - outSum t) then .error 24 else .ok ⟨out ++ mkOuts (idF t) h pos 0 t.outs, gone, st.fees + (s - outSum t)⟩
def lwTxs (h : Int) (all : List (Pt × Cn)) : Nat → List TTx → LwS → Except Int LwS
  | _, [], st => .ok st
  | pos, t :: r, st => match lwTx h all pos t st with
    | .error e => .error e
    | .ok st' => lwTxs h all (pos + 1) r st'
/-- The law's own plan. -/
def lawF (hd : Hd) (ts : List TTx) (h : Int) (all : List (Pt × Cn)) : Except Int LwS :=
  if chkF hd ts ≠ 0 then .error (chkF hd ts) else lwTxs h all 0 ts ⟨all, [], 0⟩
/-! ### keys -/
section
variable {α β : Type} [BEq α] [LawfulBEq α]
def keys (m : List (α × β)) : List α := m.map Prod.fst
theorem lookup_mem : ∀ {m : List (α × β)} {a : α} {v : β}, m.lookup a = some v → (a, v) ∈ m
  | [], a, v, h => by cases h
  | (k, x) :: r, a, v, h => by
    rw [List.lookup_cons] at h
    by_cases e : a = k
    · subst e
      rw [beq_self_eq_true] at h
      obtain rfl := Option.some.inj h
      simp
    · rw [beq_eq_false_iff_ne.2 e] at h
      exact List.mem_cons_of_mem _ (lookup_mem h)
theorem lookup_none_iff {m : List (α × β)} {a : α} : m.lookup a = none ↔ a ∉ keys m := by
  induction m with
  | nil => simp [keys]
  | cons x r ih =>
    obtain ⟨k, x⟩ := x
    rw [List.lookup_cons]
    by_cases e : a = k
    · subst e
      simp [keys]
    · rw [beq_eq_false_iff_ne.2 e]
      simp only [keys, List.map_cons, List.mem_cons, not_or] at ih ⊢
      exact ⟨fun h => ⟨e, ih.1 h⟩, fun h => ih.2 h.2⟩
theorem lookup_some_of {m : List (α × β)} (hn : (keys m).Nodup) {a : α} {v : β} (h : (a, v) ∈ m) : m.lookup a = some v := by
  obtain ⟨j, hj⟩ := List.getElem?_of_mem h
  exact lookup_at m j a v hn hj
omit [LawfulBEq α] in
theorem lookup_append (m l : List (α × β)) (a : α) : (m ++ l).lookup a = (m.lookup a).or (l.lookup a) := by
  induction m with
  | nil => rfl
  | cons x r ih =>
    obtain ⟨k, x⟩ := x
    rw [List.cons_append, List.lookup_cons, List.lookup_cons]
    cases a == k
    · exact ih
    · rfl
omit [LawfulBEq α] in
theorem keys_delV (m : List (α × β)) (a : α) : (keys (delV m a)).Sublist (keys m) := by
  induction m with
  | nil => exact List.Sublist.refl _
  | cons x r ih =>
    obtain ⟨k, x⟩ := x
    rw [delV]
    split
    · exact List.sublist_cons_self _ _
    · exact ih.cons_cons _
theorem lookup_delV : ∀ (m : List (α × β)), (keys m).Nodup → ∀ (a c : α), (delV m a).lookup c = if c == a then none else m.lookup c
  | [], _, a, c => by simp [delV]
  | (k, x) :: r, hn, a, c => by
    have hn' : k ∉ keys r ∧ (keys r).Nodup := List.nodup_cons.1 hn
    rw [delV]
    by_cases hk : k = a
    · subst hk
      rw [beq_self_eq_true, if_pos rfl, List.lookup_cons]
      by_cases hc : c = k
      · subst hc
        rw [beq_self_eq_true]
        exact lookup_none_iff.2 hn'.1
      · rw [beq_eq_false_iff_ne.2 hc]
        rfl
    · rw [beq_eq_false_iff_ne.2 hk, if_neg (by decide), List.lookup_cons, List.lookup_cons, lookup_delV r hn'.2 a c]
      by_cases hc : c = k
      · subst hc
        rw [beq_self_eq_true, beq_eq_false_iff_ne.2 hk]
        rfl
      · rw [beq_eq_false_iff_ne.2 hc]
theorem delV_perm : ∀ (m : List (α × β)) {a : α} {v : β}, m.lookup a = some v → m.Perm ((a, v) :: delV m a)
  | [], a, v, h => by cases h
  | (k, x) :: r, a, v, h => by
    rw [List.lookup_cons] at h
    rw [delV]
    by_cases e : a = k
    · subst e
      rw [beq_self_eq_true] at h ⊢
      obtain rfl := Option.some.inj h
      exact List.Perm.refl _
    · rw [beq_eq_false_iff_ne.2 e] at h
      rw [beq_eq_false_iff_ne.2 (fun h => e h.symm), if_neg (by decide)]
      exact ((delV_perm r h).cons _).trans (List.Perm.swap _ _ _)
/-- Two lists of entries, no key twice, that answer alike, are one but for their order. -/
theorem perm_of_lookup : ∀ (m l : List (α × β)), (keys m).Nodup → (keys l).Nodup → (∀ a, m.lookup a = l.lookup a) → m.Perm l
  | [], l, _, _, h => by
    cases l with
    | nil => exact List.Perm.refl _
    | cons x r =>
      obtain ⟨k, x⟩ := x
      have := h k
      rw [List.lookup_cons, beq_self_eq_true] at this
      cases this
  | (k, x) :: r, l, hm, hl, h => by
    have hm' : k ∉ keys r ∧ (keys r).Nodup := List.nodup_cons.1 hm
    have hk : l.lookup k = some x := by rw [← h k, List.lookup_cons, beq_self_eq_true]
    have hp := delV_perm l hk
    refine (List.Perm.cons _ (perm_of_lookup r (delV l k) hm'.2 ((keys_delV l k).nodup hl) (fun a => ?_))).trans hp.symm
    rw [lookup_delV l hl]
    by_cases e : a = k
    · subst e
      rw [beq_self_eq_true, if_pos rfl]
      exact lookup_none_iff.2 hm'.1
    · rw [beq_eq_false_iff_ne.2 e, if_neg (by decide), ← h a, List.lookup_cons, beq_eq_false_iff_ne.2 e]
theorem lookup_perm {m l : List (α × β)} (hm : (keys m).Nodup) (h : m.Perm l) (a : α) : m.lookup a = l.lookup a := by
  have hl : (keys l).Nodup := ((h.map Prod.fst).nodup_iff).1 hm
  cases e : m.lookup a with
  | some v => exact (lookup_some_of hl (h.mem_iff.1 (lookup_mem e))).symm
  | none =>
    symm
    rw [lookup_none_iff] at e ⊢
    exact fun hh => e ((h.map Prod.fst).mem_iff.2 hh)
omit [BEq α] [LawfulBEq α] in
theorem nodup_append_new {m : List (α × β)} (hm : (keys m).Nodup) {l : List (α × β)} (hl : (keys l).Nodup) (hd : ∀ a, a ∈ keys m → a ∉ keys l) : (keys (m ++ l)).Nodup := by
  unfold keys at *
  rw [List.map_append, List.nodup_append]
  exact ⟨hm, hl, fun a ha b hb e => hd a ha (e ▸ hb)⟩
theorem keys_putV : ∀ (m : List (α × β)) (a : α) (v : β), keys (putV m a v) = if a ∈ keys m then keys m else keys m ++ [a]
  | [], a, v => by simp [putV, keys]
  | (k, x) :: r, a, v => by
    rw [putV]
    by_cases hk : k = a
    · subst hk
      rw [beq_self_eq_true, if_pos rfl]
      simp [keys]
    · rw [beq_eq_false_iff_ne.2 hk, if_neg (by decide)]
      show k :: keys (putV r a v) = _
      rw [keys_putV r a v]
      have e : a ∈ keys ((k, x) :: r) ↔ a ∈ keys r := by
        simp only [keys, List.map_cons, List.mem_cons]
        exact ⟨fun h => h.resolve_left (fun h => hk h.symm), Or.inr⟩
      by_cases h : a ∈ keys r
      · rw [if_pos h, if_pos (e.2 h)]
        rfl
      · rw [if_neg h, if_neg (fun h2 => h (e.1 h2))]
        rfl
end
theorem seek_or (made m : List (Pt × Cn)) (p : Pt) : seek made m p = (made.lookup p).or (m.lookup p) := by
  unfold seek
  cases made.lookup p <;> rfl
/-! ### inputs -/
def pts (us : List Us) : List Pt := us.map (·.pt)
def pairs (us : List Us) : List (Pt × Cn) := us.map fun u => (u.pt, u.coin)
def coinsOf (us : List Us) : Int := (us.map (·.coin.coins)).sum
structure InsInv (made m : List (Pt × Cn)) (sp : List (Pt × Bool)) (us : List Us) (out gone : List (Pt × Cn)) : Prop where
  ho : ∀ p, out.lookup p = if p ∈ pts us then none else seek made m p
  hs : ∀ p, (sp.lookup p).getD false = decide (p ∈ pts us)
  hg : gone = pairs us
  nod : (keys out).Nodup
  once : (pts us).Nodup
  coin : ∀ u ∈ us, seek made m u.pt = some u.coin
def InsRel (made m : List (Pt × Cn)) (pos i : Nat) (ins : List TIn) (us : List Us) (s : Int) : Except Int (List (Pt × Bool) × List Us × Int) → Except Int (List (Pt × Cn) × List (Pt × Cn) × Int) → Prop
  | .error e, .error f => e = f
  | .ok (sp', us', s'), .ok (out', gone', s'') => s' = s'' ∧ InsInv made m sp' us' out' gone' ∧ ∃ new, us' = us ++ new ∧ (∀ u ∈ new, u.pos = pos ∧ i ≤ u.inn ∧ ∃ x, ins[u.inn - i]? = some x ∧ x.pt = u.pt) ∧ s' = s + coinsOf new
  | _, _ => False
theorem InsInv.step {made m : List (Pt × Cn)} {sp : List (Pt × Bool)} {us : List Us} {out gone : List (Pt × Cn)} (h : InsInv made m sp us out gone) {p : Pt} {c : Cn} (hk : seek made m p = some c) (hp : p ∉ pts us) (pos i : Nat) :
    InsInv made m (putV sp p true) (us ++ [⟨pos, i, p, c⟩]) (delV out p) (gone ++ [(p, c)]) := by
  have hpt : pts (us ++ [⟨pos, i, p, c⟩]) = pts us ++ [p] := by simp [pts]
  refine ⟨fun q => ?_, fun q => ?_, ?_, (keys_delV _ _).nodup h.nod, ?_, fun u hu => ?_⟩
  · rw [lookup_delV _ h.nod, h.ho, hpt]
    by_cases e : q = p
    · subst e
      simp
    · simp [e]
  · rw [lookup_putV, hpt]
    by_cases e : q = p
    · subst e
      simp
    · have := h.hs q
      simp [e, this]
  · rw [h.hg]
    simp [pairs]
  · rw [hpt, List.nodup_append]
    exact ⟨h.once, by simp, fun a ha b hb e => hp (by rw [List.mem_singleton.1 hb] at e; rw [← e]; exact ha)⟩
  · rcases List.mem_append.1 hu with hu | hu
    · exact h.coin u hu
    · rw [List.mem_singleton.1 hu]
      exact hk
theorem ins_rel (made m : List (Pt × Cn)) (pos : Nat) : ∀ (ins : List TIn) (i : Nat) (sp : List (Pt × Bool)) (us : List Us) (out gone : List (Pt × Cn)) (s : Int), InsInv made m sp us out gone →
    InsRel made m pos i ins us s (plIns made m pos i ins sp us s) (lwIns ins out gone s)
  | [], i, sp, us, out, gone, s, h => ⟨rfl, h, [], by simp, (fun u hu => by cases hu), by simp [coinsOf]⟩
  | x :: r, i, sp, us, out, gone, s, h => by
    rw [plIns, lwIns, h.ho x.pt]
    cases hk : seek made m x.pt with
    | none =>
      have : (if x.pt ∈ pts us then none else none : Option Cn) = none := by split <;> rfl
      rw [this]
      exact rfl
    | some c =>
      by_cases hp : x.pt ∈ pts us
      · have h1 := h.hs x.pt
        rw [decide_eq_true hp] at h1
        rw [if_pos hp]
        simp only [h1, if_true]
        exact rfl
      · have h1 := h.hs x.pt
        rw [decide_eq_false hp] at h1
        rw [if_neg hp]
        simp only [h1, Bool.false_eq_true, if_false]
        by_cases ht : topM < s + c.coins
        · simp only [if_pos ht]
          exact rfl
        · simp only [if_neg ht]
          have ih := ins_rel made m pos r (i + 1) _ _ _ _ (s + c.coins) (h.step hk hp pos i)
          revert ih
          generalize plIns made m pos (i + 1) r (putV sp x.pt true) (us ++ [⟨pos, i, x.pt, c⟩]) (s + c.coins) = a
          generalize lwIns r (delV out x.pt) (gone ++ [(x.pt, c)]) (s + c.coins) = b
          intro ih
          match a, b, ih with
          | .error e, .error f, ih => exact ih
          | .ok (sp', us', s'), .ok (out', gone', s''), ih =>
            obtain ⟨h1, h2, new, h3, h4, h5⟩ := ih
            refine ⟨h1, h2, ⟨pos, i, x.pt, c⟩ :: new, by rw [h3]; simp, fun u hu => ?_, ?_⟩
            · rcases List.mem_cons.1 hu with rfl | hu
              · exact ⟨rfl, Nat.le_refl _, x, by simp, rfl⟩
              · obtain ⟨k1, k2, y, k3, k4⟩ := h4 u hu
                refine ⟨k1, by omega, y, ?_, k4⟩
                rw [show u.inn - i = (u.inn - (i + 1)) + 1 by omega, List.getElem?_cons_succ]
                exact k3
            · rw [h5]
              simp [coinsOf]
              omega
/-! ### a transaction's outputs -/
theorem mkOuts_keys (id : List Int) (h : Int) (pos : Nat) : ∀ (os : List TOut) (i : Nat), keys (mkOuts id h pos i os) = (List.range' i os.length).map (fun (k : Nat) => (id, (k : Int)))
  | [], i => rfl
  | o :: r, i => by
    show (id, (i : Int)) :: keys (mkOuts id h pos (i + 1) r) = _
    rw [mkOuts_keys id h pos r (i + 1), List.length_cons, List.range'_succ, List.map_cons]
theorem mkOuts_id {id : List Int} {h : Int} {pos i : Nat} {os : List TOut} {p : Pt} (hp : p ∈ keys (mkOuts id h pos i os)) : p.1 = id := by
  rw [mkOuts_keys] at hp
  obtain ⟨k, _, rfl⟩ := List.mem_map.1 hp
  rfl
theorem mkOuts_nodup (id : List Int) (h : Int) (pos i : Nat) (os : List TOut) : (keys (mkOuts id h pos i os)).Nodup := by
  rw [mkOuts_keys]
  refine List.pairwise_map.2 ((List.nodup_range' (step := 1)).imp fun {a b} hne e => hne ?_)
  simp only [Prod.mk.injEq] at e
  omega
theorem putAll_new : ∀ (l m : List (Pt × Cn)), (keys l).Nodup → (∀ p ∈ keys m, p ∉ keys l) → putAll m l = m ++ l
  | [], m, _, _ => by simp [putAll]
  | (p, c) :: r, m, hn, hd => by
    have hn' : p ∉ keys r ∧ (keys r).Nodup := List.nodup_cons.1 hn
    have h1 : putV m p c = m ++ [(p, c)] := putV_new m p c (fun q hq e => hd q.1 (List.mem_map.2 ⟨q, hq, rfl⟩) (by rw [e]; simp [keys]))
    show putAll (putV m p c) r = _
    rw [h1, putAll_new r _ hn'.2 (fun q hq => ?_)]
    · simp
    · simp only [keys, List.map_append, List.map_cons, List.map_nil, List.mem_append, List.mem_singleton] at hq
      rcases hq with hq | rfl
      · exact fun h => hd q hq (List.mem_cons_of_mem _ h)
      · exact hn'.1
theorem any_id {m : List (Pt × Cn)} {id : List Int} (h : ¬ m.any (fun p => p.1.1 == id) = true) : ∀ p ∈ keys m, p.1 ≠ id := fun p hp e => by
  obtain ⟨q, hq, rfl⟩ := List.mem_map.1 hp
  exact h (List.any_eq_true.2 ⟨q, hq, by simpa using e⟩)
/-! ### transaction by transaction -/
structure TxInv (m : List (Pt × Cn)) (ids : List (List Int)) (ts : List TTx) (st : PlS) (lw : LwS) : Prop where
  made : st.made = st.makes
  nod : (keys st.makes).Nodup
  hids : ∀ p ∈ keys st.makes, p.1 ∈ ids
  hnew : ∀ p ∈ keys m, p.1 ∉ ids
  inv : InsInv st.made m st.spent st.uses lw.out lw.gone
  fees : lw.fees = st.fees
  at_ : ∀ u ∈ st.uses, ∃ t x, ts[u.pos]? = some t ∧ t.ins[u.inn]? = some x ∧ x.pt = u.pt
def TxRel (m : List (Pt × Cn)) (ids : List (List Int)) (ts : List TTx) : Except Int PlS → Except Int LwS → Prop
  | .error e, .error f => e = f
  | .ok st, .ok lw => TxInv m ids ts st lw
  | _, _ => False
theorem TxInv.outs {m : List (Pt × Cn)} {ids : List (List Int)} {ts : List TTx} {st : PlS} {lw : LwS} (h : TxInv m ids ts st lw) {t : TTx} (hid : idF t ∉ ids) (hop : ∀ p ∈ keys m, p.1 ≠ idF t)
    {sp : List (Pt × Bool)} {us : List Us} {out gone : List (Pt × Cn)} (hi : InsInv st.made m sp us out gone) (hat : ∀ u ∈ us, ∃ t x, ts[u.pos]? = some t ∧ t.ins[u.inn]? = some x ∧ x.pt = u.pt) (hh : Int) (pos : Nat) (fees : Int) :
    TxInv m (ids ++ [idF t]) ts (plEnd hh pos t st sp us fees) ⟨out ++ mkOuts (idF t) hh pos 0 t.outs, gone, fees⟩ := by
  have hk := mkOuts_nodup (idF t) hh pos 0 t.outs
  have hid' : ∀ p ∈ keys (mkOuts (idF t) hh pos 0 t.outs), p.1 = idF t := fun p hp => mkOuts_id hp
  generalize hL : mkOuts (idF t) hh pos 0 t.outs = L at hk hid'
  have hmd : ∀ p ∈ keys st.makes, p ∉ keys L := fun p hp hq => hid (by rw [← hid' p hq]; exact h.hids p hp)
  have hput : putAll st.made L = st.makes ++ L := by rw [h.made]; exact putAll_new L _ hk hmd
  -- what is not the transaction's own stands as it stood
  have hfar : ∀ p : Pt, p.1 ≠ idF t → L.lookup p = none := fun p hp => lookup_none_iff.2 fun hq => hp (hid' p hq)
  have hown : ∀ p : Pt, p.1 = idF t → seek st.made m p = none := fun p hp => by
    rw [seek_or, h.made, lookup_none_iff.2 (fun hq => hid (by rw [← hp]; exact h.hids p hq)), lookup_none_iff.2 (fun hq => hop p hq hp)]
    rfl
  have hus : ∀ p ∈ pts us, p.1 ≠ idF t := fun p hp e => by
    obtain ⟨u, hu, rfl⟩ := List.mem_map.1 hp
    have := hi.coin u hu
    rw [hown _ e] at this
    cases this
  have hseek : ∀ p : Pt, seek (st.makes ++ L) m p = if p.1 = idF t then L.lookup p else seek st.made m p := fun p => by
    rw [seek_or, lookup_append]
    by_cases e : p.1 = idF t
    · have h1 := hown p e
      rw [seek_or, h.made] at h1
      rw [if_pos e]
      cases ha : st.makes.lookup p with
      | some c => rw [ha] at h1; cases h1
      | none =>
        rw [ha] at h1
        rw [show m.lookup p = none from h1]
        cases L.lookup p <;> rfl
    · rw [if_neg e, hfar p e, seek_or, h.made]
      cases st.makes.lookup p <;> rfl
  have hout : ∀ p : Pt, (out ++ L).lookup p = if p ∈ pts us then none else seek (st.makes ++ L) m p := fun p => by
    rw [lookup_append, hi.ho, hseek]
    by_cases e : p.1 = idF t
    · rw [if_neg (fun hq => hus p hq e), if_neg (fun hq => hus p hq e), hown p e, if_pos e]
      rfl
    · rw [hfar p e, if_neg e]
      split
      · rfl
      · cases seek st.made m p <;> rfl
  unfold plEnd
  rw [hL, hput]
  refine ⟨rfl, nodup_append_new h.nod hk hmd, fun p hp => ?_, fun p hp => ?_, ⟨hout, hi.hs, hi.hg, ?_, hi.once, fun u hu => ?_⟩, rfl, hat⟩
  · simp only [keys, List.map_append, List.mem_append] at hp
    rcases hp with hp | hp
    · exact List.mem_append_left _ (h.hids p hp)
    · exact List.mem_append_right _ (by simp [hid' p hp])
  · simp only [List.mem_append, List.mem_singleton, not_or]
    exact ⟨h.hnew p hp, hop p hp⟩
  · refine nodup_append_new hi.nod hk fun p hp hq => ?_
    have h1 : out.lookup p = none := by
      rw [hi.ho, hown p (hid' p hq)]
      split <;> rfl
    exact lookup_none_iff.1 h1 hp
  · rw [hseek, if_neg (hus _ (List.mem_map.2 ⟨u, hu, rfl⟩))]
    exact hi.coin u hu
theorem tx_rel {m all : List (Pt × Cn)} (hma : m.Perm all) (hh : Int) {ids : List (List Int)} {ts : List TTx} {pos : Nat} {t : TTx} (ht : ts[pos]? = some t) (hid : idF t ∉ ids) {st : PlS} {lw : LwS} (h : TxInv m ids ts st lw) :
    TxRel m (ids ++ [idF t]) ts (plTx hh m pos t st) (lwTx hh all pos t lw) := by
  have hany : all.any (fun p => p.1.1 == idF t) = m.any (fun p => p.1.1 == idF t) := by
    rw [Bool.eq_iff_iff, List.any_eq_true, List.any_eq_true]
    exact ⟨fun ⟨x, hx, k⟩ => ⟨x, hma.mem_iff.2 hx, k⟩, fun ⟨x, hx, k⟩ => ⟨x, hma.mem_iff.1 hx, k⟩⟩
  unfold plTx lwTx
  rw [hany]
  by_cases ho : m.any (fun p => p.1.1 == idF t) = true
  · rw [if_pos ho, if_pos ho]
    exact rfl
  · rw [if_neg ho, if_neg ho]
    have hop := any_id ho
    by_cases hp : pos = 0
    · rw [if_pos hp, if_pos hp, h.fees]
      exact h.outs hid hop h.inv h.at_ hh pos st.fees
    · rw [if_neg hp, if_neg hp]
      have hr := ins_rel st.made m pos t.ins 0 st.spent st.uses lw.out lw.gone 0 h.inv
      revert hr
      generalize plIns st.made m pos 0 t.ins st.spent st.uses 0 = a
      generalize lwIns t.ins lw.out lw.gone 0 = b
      intro hr
      match a, b, hr with
      | .error e, .error f, hr => exact hr
      | .ok (sp', us', s'), .ok (out', gone', s''), hr =>
        obtain ⟨rfl, h2, new, h3, h4, h5⟩ := hr
        rw [h.fees]
        by_cases k1 : s' < outSum t
        · simp only [if_pos k1]
          exact rfl
        · simp only [if_neg k1]
          by_cases k2 : topM < st.fees + (s' - outSum t)
          · simp only [if_pos k2]
            exact rfl
          · simp only [if_neg k2]
            refine h.outs hid hop h2 (fun u hu => ?_) hh pos _
            rw [h3] at hu
            rcases List.mem_append.1 hu with hu | hu
            · exact h.at_ u hu
            · obtain ⟨q1, _, x, q3, q4⟩ := h4 u hu
              exact ⟨t, x, by rw [q1]; exact ht, by simpa using q3, q4⟩
theorem txs_rel {m all : List (Pt × Cn)} (hma : m.Perm all) (hh : Int) (ts : List TTx) (hn : (idsF ts).Nodup) : ∀ (r : List TTx) (pos : Nat) (st : PlS) (lw : LwS), ts.drop pos = r → TxInv m (idsF (ts.take pos)) ts st lw →
    TxRel m (idsF ts) ts (plTxs hh m pos r st) (lwTxs hh all pos r lw)
  | [], pos, st, lw, hr, h => by
    have : ts.take pos = ts := List.take_of_length_le (List.drop_eq_nil_iff.1 hr)
    rw [this] at h
    exact h
  | t :: r, pos, st, lw, hr, h => by
    have ht : ts[pos]? = some t := by
      have := congrArg (fun l => l[0]?) hr
      simpa [List.getElem?_drop] using this
    have hlt := (List.getElem?_eq_some_iff.1 ht).1
    have hids : idsF (ts.take pos) ++ [idF t] = idsF (ts.take (pos + 1)) := by unfold idsF; rw [List.take_add_one, ht]; simp
    have hid : idF t ∉ idsF (ts.take pos) := by
      have h1 : (idsF (ts.take (pos + 1))).Nodup := by
        have : (idsF (ts.take (pos + 1))).Sublist (idsF ts) := (List.take_sublist _ _).map _
        exact this.nodup hn
      rw [← hids, List.nodup_append] at h1
      exact fun hm => h1.2.2 _ hm _ (by simp) rfl
    have hs := tx_rel hma hh ht hid h
    rw [hids] at hs
    rw [plTxs, lwTxs]
    revert hs
    generalize plTx hh m pos t st = a
    generalize lwTx hh all pos t lw = b
    intro hs
    match a, b, hs with
    | .error e, .error f, hs => exact hs
    | .ok st', .ok lw', hs =>
      refine txs_rel hma hh ts hn r (pos + 1) st' lw' ?_ hs
      rw [← List.tail_drop, hr]
      rfl
theorem inv_start {m all : List (Pt × Cn)} (hma : m.Perm all) (hn : (keys m).Nodup) (ts : List TTx) : TxInv m [] ts pl0 ⟨all, [], 0⟩ := by
  refine ⟨rfl, List.nodup_nil, (fun p hp => by cases hp), (fun p hp h => by cases h), ⟨fun p => ?_, fun p => rfl, rfl, ((hma.map Prod.fst).nodup_iff).1 hn, List.nodup_nil, (fun u hu => by cases hu)⟩, rfl, (fun u hu => by cases hu)⟩
  rw [← lookup_perm hn hma p]
  rfl
theorem delAll_law : ∀ (us : List Us) (m : List (Pt × Cn)), (keys m).Nodup → (keys (delAll m us)).Nodup ∧ ∀ p, (delAll m us).lookup p = if p ∈ pts us then none else m.lookup p
  | [], m, hn => ⟨hn, fun p => by simp [delAll, pts]⟩
  | u :: us, m, hn => by
    obtain ⟨h1, h2⟩ := delAll_law us (delV m u.pt) ((keys_delV _ _).nodup hn)
    refine ⟨h1, fun p => ?_⟩
    show (delAll (delV m u.pt) us).lookup p = _
    rw [h2 p, lookup_delV m hn]
    by_cases e : p = u.pt
    · subst e
      simp [pts]
    · simp [pts, e]
/-- What the program's plan turns, and the law's own. -/
structure PlanOk (m : List (Pt × Cn)) (ts : List TTx) (d : Df) (lw : LwS) : Prop where
  ids : d.ids = idsF ts
  fees : lw.fees = d.fees
  gone : lw.gone = pairs d.uses
  at_ : ∀ u ∈ d.uses, ∃ t x, ts[u.pos]? = some t ∧ t.ins[u.inn]? = some x ∧ x.pt = u.pt
  put : putAll m d.makes = m ++ d.makes
  nod : (keys (m ++ d.makes)).Nodup
  once : (pts d.uses).Nodup
  coin : ∀ u ∈ d.uses, (m ++ d.makes).lookup u.pt = some u.coin
  out : lw.out.Perm (applyF m d)
  set : (keys (applyF m d)).Nodup
  left : ∀ p, (applyF m d).lookup p = if p ∈ pts d.uses then none else (m ++ d.makes).lookup p
def PlanRel (m : List (Pt × Cn)) (ts : List TTx) : Except Int Df → Except Int LwS → Prop
  | .error e, .error f => e = f ∧ e ≠ 0
  | .ok d, .ok lw => PlanOk m ts d lw
  | _, _ => False
theorem plIns_err (made m : List (Pt × Cn)) (pos : Nat) : ∀ (ins : List TIn) (i : Nat) (sp : List (Pt × Bool)) (us : List Us) (s e : Int), plIns made m pos i ins sp us s = .error e → e ≠ 0
  | [], i, sp, us, s, e, h => by cases h
  | x :: r, i, sp, us, s, e, h => by
    rw [plIns] at h
    split at h
    · cases h; decide
    · split at h
      · cases h; decide
      · split at h
        · cases h; decide
        · exact plIns_err made m pos r _ _ _ _ e h
theorem plTx_err (hh : Int) (m : List (Pt × Cn)) (pos : Nat) (t : TTx) (st : PlS) (e : Int) (h : plTx hh m pos t st = .error e) : e ≠ 0 := by
  unfold plTx at h
  split at h
  · cases h; decide
  · split at h
    · cases h
    · split at h
      · rename_i f hf
        obtain rfl : f = e := by injection h
        exact plIns_err _ _ _ _ _ _ _ _ _ hf
      · split at h
        · cases h; decide
        · split at h
          · cases h; decide
          · cases h
theorem plTxs_err (hh : Int) (m : List (Pt × Cn)) : ∀ (r : List TTx) (pos : Nat) (st : PlS) (e : Int), plTxs hh m pos r st = .error e → e ≠ 0
  | [], pos, st, e, h => by cases h
  | t :: r, pos, st, e, h => by
    rw [plTxs] at h
    split at h
    · rename_i f hf
      obtain rfl : f = e := by injection h
      exact plTx_err _ _ _ _ _ _ hf
    · exact plTxs_err hh m r _ _ e h
theorem chkF_nodup {hd : Hd} {ts : List TTx} (h : chkF hd ts = 0) : (idsF ts).Nodup := by
  unfold chkF at h
  split at h
  · cases h
  · split at h
    · rename_i h1
      exact absurd h h1
    · split at h
      · assumption
      · cases h
theorem plan_law {m all : List (Pt × Cn)} (hma : m.Perm all) (hn : (keys m).Nodup) (hd : Hd) (ts : List TTx) (hh : Int) (h0 : 0 ≤ hh) (h1 : hh ≤ 1073741824) : PlanRel m ts (planF hd ts hh 0 m) (lawF hd ts hh all) := by
  unfold planF lawF
  rw [if_neg (by omega)]
  by_cases hc : chkF hd ts ≠ 0
  · rw [if_pos hc, if_pos hc]
    exact ⟨rfl, hc⟩
  · rw [if_neg hc, if_neg hc, if_neg (by decide)]
    have hnd := chkF_nodup (Decidable.byContradiction hc)
    have hr := txs_rel hma hh ts hnd ts 0 pl0 ⟨all, [], 0⟩ rfl (inv_start hma hn ts)
    have he := plTxs_err hh m ts 0 pl0
    revert hr he
    generalize plTxs hh m 0 ts pl0 = a
    generalize lwTxs hh all 0 ts ⟨all, [], 0⟩ = b
    intro hr he
    match a, b, hr with
    | .error e, .error f, hr => exact ⟨hr, he e rfl⟩
    | .ok st, .ok lw, h =>
      have hdis : ∀ p ∈ keys m, p ∉ keys st.makes := fun p hp hq => h.hnew p hp (h.hids p hq)
      have hput : putAll m st.makes = m ++ st.makes := putAll_new _ _ h.nod hdis
      have hnod := nodup_append_new hn h.nod hdis
      have hseek : ∀ p, seek st.made m p = (m ++ st.makes).lookup p := fun p => by
        rw [seek_or, h.made, lookup_append]
        cases ha : m.lookup p with
        | none => cases st.makes.lookup p <;> rfl
        | some c =>
          rw [lookup_none_iff.2 (hdis p (List.mem_map.2 ⟨_, lookup_mem ha, rfl⟩))]
          rfl
      obtain ⟨d1, d2⟩ := delAll_law st.uses (m ++ st.makes) hnod
      have hap : applyF m ⟨idsF ts, st.uses, st.makes, st.fees⟩ = delAll (m ++ st.makes) st.uses := by
        unfold applyF
        simp only [hput]
      refine ⟨rfl, h.fees, h.inv.hg, h.at_, hput, hnod, h.inv.once, fun u hu => ?_, ?_, ?_, fun p => ?_⟩
      · rw [← hseek]
        exact h.inv.coin u hu
      · rw [hap]
        refine perm_of_lookup _ _ h.inv.nod d1 fun p => ?_
        rw [h.inv.ho, d2, hseek]
      · rw [hap]
        exact d1
      · rw [hap]
        exact d2 p
end Go.Proofs.YtclkgflficlmiaaDoor
end

/-! ## MapR -/
section
set_option linter.unusedVariables false
namespace Go.Proofs.YtclkgflficlmiaaDoor
open Go Go.RowKit Go.Maps Go.MapKept Go.ChangeMaps Go.WideMaps
/-- Block b is a map with these entries, block r an iterator over it; lft: what is still to come. -/
def RangeV {α β : Type} (ok : α → Prop) (w : World) (b r : Nat) (kv : α → Value) (vv : β → Value) (m lft : List (α × β)) : Prop :=
  ∃ es clock since seen c0, w.heap[b]? = some (.map es clock) ∧ Stamped es clock ∧ es.size ≤ maxLen ∧ es.toList.map (fun x => (x.key, x.val)) = m.map (fun p => (kv p.1, vv p.2)) ∧ (∀ p ∈ m, ok p.1) ∧
    w.heap[r]? = some (.mapIter (some b) since seen c0) ∧ (∀ x ∈ es.toList, x.born < since) ∧ since ≤ c0 ∧ since ≤ clock ∧ (leftOf es seen).toList.map (fun x => (x.key, x.val)) = lft.map (fun p => (kv p.1, vv p.2)) ∧ lft.Sublist m
theorem filter_erase : ∀ (l : List MapEntry) (j : Nat) (e : MapEntry), (l.map (·.born)).Nodup → l[j]? = some e → l.filter (fun x => !(x.born == e.born)) = l.eraseIdx j
  | [], j, e, _, h => by simp at h
  | a :: r, 0, e, hn, h => by
    obtain rfl : a = e := by simpa using h
    rw [List.map_cons, List.nodup_cons] at hn
    rw [List.filter_cons_of_neg (by simp), List.eraseIdx_cons_zero]
    exact List.filter_eq_self.2 fun x hx => by
      have : x.born ≠ a.born := fun e => hn.1 (List.mem_map.2 ⟨x, hx, e⟩)
      simp [this]
  | a :: r, j + 1, e, hn, h => by
    rw [List.map_cons, List.nodup_cons] at hn
    rw [List.getElem?_cons_succ] at h
    have : a.born ≠ e.born := fun he => hn.1 (List.mem_map.2 ⟨e, List.mem_of_getElem? h, he.symm⟩)
    rw [List.filter_cons_of_pos (by simp [this]), List.eraseIdx_cons_succ, filter_erase r j e hn.2 h]
theorem eraseIdx_map {α β : Type} (f : α → β) : ∀ (l : List α) (j : Nat), (l.eraseIdx j).map f = (l.map f).eraseIdx j
  | [], _ => rfl
  | _ :: _, 0 => rfl
  | a :: r, j + 1 => by simp [eraseIdx_map f r j]
section
variable {α β : Type} {P : Program} {k e t : TypeId} {kv : α → Value} {ok : α → Prop} {vv : β → Value} {w w' : World} {b r : Nat} {m lft : List (α × β)}
theorem RangeV.mapV (h : RangeV ok w b r kv vv m lft) : MapV ok w b kv vv m := by
  obtain ⟨es, clock, since, seen, c0, h1, h2, h3, h4, h5, _⟩ := h
  exact ⟨es, clock, h1, h2, h3, h4, h5⟩
theorem RangeV.sub (h : RangeV ok w b r kv vv m lft) : lft.Sublist m := by
  obtain ⟨es, clock, since, seen, c0, _, _, _, _, _, _, _, _, _, _, h⟩ := h
  exact h
theorem RangeV.lt (h : RangeV ok w b r kv vv m lft) : b < w.heap.size ∧ r < w.heap.size := by
  obtain ⟨es, clock, since, seen, c0, h1, _, _, _, _, h2, _⟩ := h
  exact ⟨(Array.getElem?_eq_some_iff.1 h1).1, (Array.getElem?_eq_some_iff.1 h2).1⟩
theorem RangeV.keep (h : RangeV ok w b r kv vv m lft) (hb : w'.heap[b]? = w.heap[b]?) (hr : w'.heap[r]? = w.heap[r]?) : RangeV ok w' b r kv vv m lft := by
  obtain ⟨es, clock, since, seen, c0, h1, h2, h3, h4, h5, h6, h7⟩ := h
  exact ⟨es, clock, since, seen, c0, hb.trans h1, h2, h3, h4, h5, hr.trans h6, h7⟩
theorem RangeV.below (h : RangeV ok w b r kv vv m lft) (hb : Below w.heap.size w w') : RangeV ok w' b r kv vv m lft := h.keep (hb.block b h.lt.1) (hb.block r h.lt.2)
theorem RangeV.ne (h : RangeV ok w b r kv vv m lft) : r ≠ b := by
  obtain ⟨es, clock, since, seen, c0, h1, _, _, _, _, h2, _⟩ := h
  intro e
  rw [e, h1] at h2
  cases h2
theorem RangeV.left_eq (h : RangeV ok w b r kv vv m lft) : w.rangeLeft b r = lft.length := by
  obtain ⟨es, clock, since, seen, c0, h1, _, _, _, _, h2, _, _, _, h3, _⟩ := h
  have := congrArg List.length h3
  simp only [List.length_map, Array.length_toList] at this
  simp only [World.rangeLeft, h1, h2]
  exact this
/-- 'range m'. -/
theorem MapV.range (ht : P.underlying t = some (.map k e)) (h : MapV ok w b kv vv m) :
    ∃ w', (Instr.range t (.map (some b))).run P w = .ok (.pointer (some ⟨w.heap.size, 0, none⟩)) w' ∧ RangeV ok w' b w.heap.size kv vv m m ∧ Below w.heap.size w w' ∧ w'.heap.size = w.heap.size + 1 := by
  have hlt := h.lt
  obtain ⟨es, clock, hb, hs, hl, hm, hok⟩ := h
  refine ⟨_, run_range_map w t k e b es clock ht hb, ⟨es, clock, clock, #[], clock, ((MapKept.heap_alloc w _).2 b hlt).trans hb, hs, hl, hm, hok, (MapKept.heap_alloc w _).1, hs.1, Nat.le_refl _, Nat.le_refl _, ?_, List.Sublist.refl _⟩, (Below.refl _ _).alloc (Nat.le_refl _) _, by simp⟩
  have : leftOf es #[] = es := by simp [leftOf]
  rw [this, hm]
/-- The step. -/
theorem RangeV.next (h : RangeV ok w b r kv vv m lft) (ty : TypeId) :
    (lft = [] ∧ (Instr.next (.pointer (some ⟨r, 0, none⟩)) false ty).run P w = .ok (.tuple #[.bool false]) w) ∨
    ∃ j a v w', lft[j]? = some (a, v) ∧ (Instr.next (.pointer (some ⟨r, 0, none⟩)) false ty).run P w = .ok (.tuple #[.bool true, kv a, vv v]) w' ∧
      RangeV ok w' b r kv vv m (lft.eraseIdx j) ∧ Turned w r w' ∧ (Instr.entry (.pointer (some ⟨r, 0, none⟩))).run P w' = .ok (.tuple #[kv a, vv v]) w' := by
  have hne := h.ne
  obtain ⟨es, clock, since, seen, c0, hb, hs, hl, hm, hok, hr, hold, hsc, hsk, hlf, hsub⟩ := h
  have hst := (stamped_iff es clock).1 hs
  rcases run_next_at (P := P) w ty r b since c0 seen es clock hr hb hold hsc with ⟨h0, hrun⟩ | ⟨e0, he, w1, hal, hrun⟩
  · refine Or.inl ⟨?_, hrun⟩
    have h1 : (leftOf es seen) = #[] := Array.eq_empty_of_size_eq_zero h0
    rw [h1] at hlf
    simpa using hlf.symm
  · obtain ⟨hem, hes⟩ := mem_left he
    obtain ⟨j, hj⟩ := List.getElem?_of_mem he
    have hp := congrArg (fun l => l[j]?) hlf
    simp only [List.getElem?_map, hj, Option.map_some] at hp
    obtain ⟨p, hp1, hp2⟩ := Option.map_eq_some_iff.1 hp.symm
    obtain ⟨a, v⟩ := p
    simp only [Prod.mk.injEq] at hp2
    obtain ⟨hk, hv⟩ := hp2
    have hr1 : w1.heap[r]? = some (.mapIter (some b) since seen c0) := by rcases hal with rfl | rfl <;> exact hr
    have hb1 : w1.heap[b]? = some (.map es clock) := by rcases hal with rfl | rfl <;> exact hb
    have hset := heap_set (o' := .mapIter (some b) since (seen.push e0.born) clock) hr1
    have hb' : (setBlock w1 r (.mapIter (some b) since (seen.push e0.born) clock)).heap[b]? = some (.map es clock) := (hset.2 b (fun e1 => hne e1.symm)).trans hb1
    have hnl : ((leftOf es seen).toList.map (·.born)).Nodup := by
      have : (leftOf es seen).toList.Sublist es.toList := by unfold leftOf; rw [Array.toList_filter]; exact List.filter_sublist
      exact (this.map _).nodup hst.2.1
    have hlf' : (leftOf es (seen.push e0.born)).toList = (leftOf es seen).toList.eraseIdx j := by
      rw [← filter_erase _ j e0 hnl hj]
      unfold leftOf
      rw [Array.toList_filter, Array.toList_filter, List.filter_filter]
      congr 1
      funext x
      rw [contains_push]
      cases seen.contains x.born <;> cases (x.born == e0.born) <;> rfl
    refine Or.inr ⟨j, a, v, _, hp1, by rw [hrun, hk, hv], ⟨es, clock, since, seen.push e0.born, clock, hb', hs, hl, hm, hok, hset.1, hold, hsk, hsk, ?_, (List.eraseIdx_sublist _ _).trans hsub⟩, ?_, ?_⟩
    · rw [hlf', eraseIdx_map, hlf, eraseIdx_map]
    · rcases hal with rfl | rfl <;> exact ⟨rfl, rfl, rfl, by simp [setBlock], fun i hi => hset.2 i hi⟩
    · rw [hk, hv]
      exact run_entry_at _ r b since seen es clock e0 hset.1 hb' hem hst.2.1
end
section
variable {α β : Type} {P : Program} {ops : Array Oper} {rest : List Oper} {o : Oper} {a : Act} {w : World} {Q : Exit → Act → World → Prop} {kv : α → Value} {ok : α → Prop} {vv : β → Value} {b r : Nat} {m lft : List (α × β)}
theorem wpList_rangeV (hg : o.guard = none) (x : Operand) (t k e : TypeId) (hop : o.op = Op.range t x) (ht : P.underlying t = some (.map k e)) (hm : a.eval x = .map (some b)) (h : MapV ok w b kv vv m)
    (hK : ∀ w', RangeV ok w' b w.heap.size kv vv m m → Below w.heap.size w w' → w'.heap.size = w.heap.size + 1 → wpList P ops Q rest (a.put o.dst (.pointer (some ⟨w.heap.size, 0, none⟩))) w') : wpList P ops Q (o :: rest) a w := by
  refine wpList_plain hg fun K' hK' => ?_
  obtain ⟨w', hrun, r1, r2, r3⟩ := h.range ht
  unfold Oper.wp
  simp [execOp, hop, hm, hrun, Result.andThen]
  exact hK' _ _ (hK w' r1 r2 r3)
theorem wpList_nextV (hg : o.guard = none) (it : Operand) (hop : o.op = Op.next it false) (hit : a.eval it = .pointer (some ⟨r, 0, none⟩)) (h : RangeV ok w b r kv vv m lft)
    (hDone : lft = [] → wpList P ops Q rest (a.put o.dst (.tuple #[.bool false])) w)
    (hMore : ∀ (j : Nat) (x : α) (v : β) (w' : World), lft[j]? = some (x, v) → RangeV ok w' b r kv vv m (lft.eraseIdx j) → Turned w r w' → (Instr.entry (.pointer (some ⟨r, 0, none⟩))).run P w' = .ok (.tuple #[kv x, vv v]) w' → wpList P ops Q rest (a.put o.dst (.tuple #[.bool true, kv x, vv v])) w') :
    wpList P ops Q (o :: rest) a w := by
  refine wpList_plain hg fun K' hK' => ?_
  unfold Oper.wp
  rcases h.next (P := P) o.type with ⟨h0, hrun⟩ | ⟨j, x, v, w', h1, hrun, h2, h3, h4⟩
  · simp [execOp, hop, hit, hrun, Result.andThen]
    exact hK' _ _ (hDone h0)
  · simp [execOp, hop, hit, hrun, Result.andThen]
    exact hK' _ _ (hMore j x v w' h1 h2 h3 h4)
end
end Go.Proofs.YtclkgflficlmiaaDoor
end

/-! ## KeyP -/
section
set_option maxRecDepth 100000
set_option linter.unusedVariables false
namespace Go.Proofs.YtclkgflficlmiaaDoor
open Go Go.RowKit
def pkv (p : Pt) : Value := .agg (ptL p.1 p.2).toArray
def PtOk (p : Pt) : Prop := Dig p.1 ∧ 0 ≤ p.2 ∧ p.2 ≤ 4294967295
theorem typesN2 : ∃ m, Tryd.prog.types.size = m + 2 := ⟨Tryd.prog.types.size - 2, by
  have : 1 < Tryd.prog.types.size := of_decide_eq_true (by kernel_rfl)
  omega⟩
theorem u32Lit {x : Int} (h : 0 ≤ x ∧ x ≤ 4294967295) : (Lit.int .u32 x).wf = true := by
  simp [Lit.wf, IntKind.min, IntKind.max, IntKind.signed, IntKind.bits]
  omega
theorem keyLits_u32 (d : Nat) (x : Int) (h : 0 ≤ x ∧ x ≤ 4294967295) : Tryd.prog.keyLits (d + 1) 26 [.int .u32 x] = some [.int .u32 x] := by
  unfold Program.keyLits
  rw [Tryd.underlying26]
  simp only [u32Lit h, and_self, if_true]
theorem keyLits_pt (d : Nat) {p : Pt} (h : PtOk p) : ∃ l, Tryd.prog.keyLits (d + 3) 64 (ptL p.1 p.2) = some l := by
  obtain ⟨l1, hl1⟩ := keyLits_hash d h.1
  have hl2 := keyLits_u32 (d + 1) p.2 h.2
  have c1 : Tryd.prog.cellsOf 24 = 32 := by kernel_rfl
  have c2 : Tryd.prog.cellsOf 26 = 1 := by kernel_rfl
  have c3 : Tryd.prog.cellsOf 64 = 33 := by kernel_rfl
  have e1 := ptL_take h.1.1 p.2
  have e2 : ((ptL p.1 p.2).drop 32).take 1 = [.int .u32 p.2] := by
    rw [List.drop_eq_getElem_cons (by rw [ptL_length h.1.1]; omega), List.take_succ_cons, List.take_zero]
    have := ptL_at h.1.1 p.2
    rw [List.getElem?_eq_getElem (by rw [ptL_length h.1.1]; omega)] at this
    rw [Option.some.inj this]
  unfold Program.keyLits
  rw [Tryd.underlying64]
  simp [c1, c2, c3, ptL_length h.1.1]
  rw [List.drop_zero] at e1
  rw [e1, hl1, e2, hl2]
  simp
theorem keyPt : KeyK Tryd.prog 64 pkv PtOk where
  law := Maps.Keyed.of_law (deep_law_laid (by kernel_rfl) (m := 3) (by omega) (of_decide_eq_true (by kernel_rfl)) (by kernel_rfl) (by rw [Tryd.underlying64]))
  key := fun a ha => by
    obtain ⟨m, hm⟩ := typesN2
    have hm0 : ∃ d, Tryd.prog.types.size + 1 = d + 3 := ⟨m, by omega⟩
    obtain ⟨d, hd⟩ := hm0
    obtain ⟨l, hl⟩ := keyLits_pt d ha
    have hk : Tryd.prog.keyType 64 = true := by kernel_rfl
    have hf : (pkv a).formed Tryd.prog 64 = true := by
      have c2 : Tryd.prog.cellsOf 64 = 33 := by kernel_rfl
      simp [pkv, Value.formed, Tryd.underlying64, c2, ptL_length ha.1.1]
    refine ⟨.string (keyBytes l), ?_⟩
    unfold keyOf
    rw [Tryd.underlying64]
    simp only [hk, hf, Bool.and_self, if_true, hd]
    show Option.map _ (Tryd.prog.keyLits (d + 3) 64 (ptL a.1 a.2).toArray.toList) = _
    rw [List.toList_toArray, hl]
    rfl
  inj := fun a b h => by
    unfold pkv at h
    injection h with h
    have h1 : ptL a.1 a.2 = ptL b.1 b.2 := by simpa using h
    unfold ptL at h1
    have h2 := congrArg (List.map (fun v : Value => match v with | .int _ x => x | _ => 0)) h1
    simp [nums, List.map_map, Function.comp_def] at h2
    exact Prod.ext h2.1 h2.2
end Go.Proofs.YtclkgflficlmiaaDoor
end

/-! ## CoinK -/
section
set_option maxRecDepth 100000
set_option linter.unusedVariables false
namespace Go.Proofs.YtclkgflficlmiaaDoor
open Go Go.RowKit
/-- A coin's cells: 35. -/
def cnCells (c : Cn) : List Value := .int .i64 c.coins :: (nums .u8 c.script ++ [.int .i64 c.height, .int .i64 (c.pos : Int)])
structure Cn.Ok (c : Cn) : Prop where
  sc : Dig c.script
theorem cnCells_length {c : Cn} (h : c.Ok) : (cnCells c).length = 35 := by simp [cnCells, nums_length, h.sc.1]
theorem cnCells_one (c : Cn) : ∀ u ∈ cnCells c, u.oneCell' = true := by
  intro u hu
  simp only [cnCells, List.mem_cons, List.mem_append, List.not_mem_nil, or_false] at hu
  rcases hu with rfl | hu | rfl | rfl
  · rfl
  · exact nums_one _ _ u hu
  · rfl
  · rfl
theorem cnCells_all (c : Cn) : (cnCells c).toArray.all (·.oneCell') = true := by rw [Array.all_eq_true']; intro u hu; exact cnCells_one c u (by simpa using hu)
theorem info_cn {c : Cn} (h : c.Ok) : (Tryd.prog.info? 106).map (·.size) = some (cnCells c).length := by rw [cnCells_length h]; kernel_rfl
theorem info_cnA {c : Cn} (h : c.Ok) : (Tryd.prog.info? 106).map (·.size) = some (cnCells c).toArray.size := by rw [List.size_toArray]; exact info_cn h
theorem size_cn {c d : Cn} (h : c.Ok) (k : d.Ok) : (cnCells c).toArray.size = (cnCells d).toArray.size := by rw [List.size_toArray, List.size_toArray, cnCells_length h, cnCells_length k]
def cn0 : Cn := ⟨0, zeros32, 0, 0⟩
theorem cn0_ok : cn0.Ok := ⟨zeros32_dig⟩
def cnv (c : Cn) : Value := .agg (cnCells c).toArray
def cnK : RK Cn where
  sz := 35
  K := fun _ _ c cs => cs = cnCells c ∧ c.Ok
  len := by
    rintro S w c cs ⟨rfl, h⟩
    exact cnCells_length h
  one := by
    rintro S w c cs ⟨rfl, h⟩
    exact cnCells_one c
  move := fun _ h => h
  mono := fun _ h => h
theorem ptL_one (xs : List Int) (o : Int) : ∀ u ∈ ptL xs o, u.oneCell' = true := by
  intro u hu
  unfold ptL at hu
  rcases List.mem_append.1 hu with hu | hu
  · exact nums_one _ _ u hu
  · rw [List.mem_singleton.1 hu]; rfl
theorem ptL_all (xs : List Int) (o : Int) : (ptL xs o).toArray.all (·.oneCell') = true := by rw [Array.all_eq_true']; intro u hu; exact ptL_one xs o u (by simpa using hu)
theorem info_ptA {xs : List Int} (h : xs.length = 32) (o : Int) : (Tryd.prog.info? 64).map (·.size) = some (ptL xs o).toArray.size := by rw [List.size_toArray]; exact info_pt h o
theorem size_pt {xs ys : List Int} (h : xs.length = 32) (k : ys.length = 32) (o p : Int) : (ptL xs o).toArray.size = (ptL ys p).toArray.size := by rw [List.size_toArray, List.size_toArray, ptL_length h, ptL_length k]
def ptK : RK Pt where
  sz := 33
  K := fun _ _ p cs => cs = ptL p.1 p.2 ∧ PtOk p
  len := by
    rintro S w p cs ⟨rfl, h⟩
    exact ptL_length h.1.1 _
  one := by
    rintro S w p cs ⟨rfl, h⟩
    exact ptL_one _ _
  move := fun _ h => h
  mono := fun _ h => h
/-- A row: an output and its coin (coin.Made, the law's own row): 68 cells. -/
def mkCells (x : Pt × Cn) : List Value := ptL x.1.1 x.1.2 ++ cnCells x.2
def MkOk (x : Pt × Cn) : Prop := PtOk x.1 ∧ x.2.Ok
theorem mkCells_length {x : Pt × Cn} (h : MkOk x) : (mkCells x).length = 68 := by rw [mkCells, List.length_append, ptL_length h.1.1.1, cnCells_length h.2]
theorem mkCells_one (x : Pt × Cn) : ∀ u ∈ mkCells x, u.oneCell' = true := by
  intro u hu
  rcases List.mem_append.1 hu with hu | hu
  · exact ptL_one _ _ u hu
  · exact cnCells_one _ u hu
theorem mkCells_all (x : Pt × Cn) : (mkCells x).toArray.all (·.oneCell') = true := by rw [Array.all_eq_true']; intro u hu; exact mkCells_one x u (by simpa using hu)
def mkK : RK (Pt × Cn) where
  sz := 68
  K := fun _ _ x cs => cs = mkCells x ∧ MkOk x
  len := by
    rintro S w c cs ⟨rfl, h⟩
    exact mkCells_length h
  one := by
    rintro S w c cs ⟨rfl, h⟩
    exact mkCells_one c
  move := fun _ h => h
  mono := fun _ h => h
/-- An input that is spent (coin.Use): 70 cells. -/
def usCells (u : Us) : List Value := .int .i64 (u.pos : Int) :: .int .i64 (u.inn : Int) :: (ptL u.pt.1 u.pt.2 ++ cnCells u.coin)
def UsOk (u : Us) : Prop := PtOk u.pt ∧ u.coin.Ok
theorem usCells_length {u : Us} (h : UsOk u) : (usCells u).length = 70 := by rw [usCells, List.length_cons, List.length_cons, List.length_append, ptL_length h.1.1.1, cnCells_length h.2]
theorem usCells_one (u : Us) : ∀ v ∈ usCells u, v.oneCell' = true := by
  intro v hv
  simp only [usCells, List.mem_cons] at hv
  rcases hv with rfl | rfl | hv
  · rfl
  · rfl
  · rcases List.mem_append.1 hv with hv | hv
    · exact ptL_one _ _ v hv
    · exact cnCells_one _ v hv
theorem usCells_all (u : Us) : (usCells u).toArray.all (·.oneCell') = true := by rw [Array.all_eq_true']; intro v hv; exact usCells_one u v (by simpa using hv)
def usK : RK Us where
  sz := 70
  K := fun _ _ x cs => cs = usCells x ∧ UsOk x
  len := by
    rintro S w c cs ⟨rfl, h⟩
    exact usCells_length h
  one := by
    rintro S w c cs ⟨rfl, h⟩
    exact usCells_one c
  move := fun _ h => h
  mono := fun _ h => h
/-! ### built -/
theorem wpList_builtA {P : Program} {ops : Array Oper} {rest : List Oper} {o : Oper} {a : Act} {w : World} {Q : Exit → Act → World → Prop} (hg : Region.wanted o (yielded ops a.tmps) = true) (t : TypeId) (parts : Array (Nat × Operand)) (ho : o.op = .build t parts)
    (pv : List (Nat × Value)) (hp0 : parts.toList.map (fun y => (y.1, a.eval y.2)) = pv) (cs : Array Value) (hb : P.built t pv = some cs) (h : wpList P ops Q rest (a.put o.dst (.agg cs)) w) : wpList P ops Q (o :: rest) a w :=
  wpList_want hg fun _ hK => by
    have hk := hK _ _ h
    have hp : (parts.map fun (i, y) => (i, a.eval y)).toList = pv := by rw [Array.toList_map]; exact hp0
    refine wp_build t parts ho ?_ ?_
    · rw [hp, hb]; rfl
    · rw [hp, hb]; exact hk
theorem built_point (xs : List Int) (h : xs.length = 32) (o : Int) : Tryd.prog.built 64 [(0, .agg (nums .u8 xs).toArray), (1, .int .u32 o)] = some (ptL xs o).toArray := by
  obtain ⟨a0, a1, a2, a3, a4, a5, a6, a7, a8, a9, a10, a11, a12, a13, a14, a15, a16, a17, a18, a19, a20, a21, a22, a23, a24, a25, a26, a27, a28, a29, a30, a31, rfl⟩ := list32b xs h
  kernel_rfl
theorem built_cn (x : Int) (xs : List Int) (h : xs.length = 32) (o : Int) (p : Nat) : Tryd.prog.built 106 [(0, .int .i64 x), (1, .agg (nums .u8 xs).toArray), (2, .int .i64 o), (3, .int .i64 (p : Int))] = some (cnCells ⟨x, xs, o, p⟩).toArray := by
  obtain ⟨a0, a1, a2, a3, a4, a5, a6, a7, a8, a9, a10, a11, a12, a13, a14, a15, a16, a17, a18, a19, a20, a21, a22, a23, a24, a25, a26, a27, a28, a29, a30, a31, rfl⟩ := list32b xs h
  kernel_rfl
theorem built_mk (xs ys : List Int) (h : xs.length = 32) (k : ys.length = 32) (o x z : Int) (p : Nat) : Tryd.prog.built 110 [(0, .agg (ptL xs o).toArray), (1, .agg (cnCells ⟨x, ys, z, p⟩).toArray)] = some (mkCells ((xs, o), ⟨x, ys, z, p⟩)).toArray := by
  obtain ⟨a0, a1, a2, a3, a4, a5, a6, a7, a8, a9, a10, a11, a12, a13, a14, a15, a16, a17, a18, a19, a20, a21, a22, a23, a24, a25, a26, a27, a28, a29, a30, a31, rfl⟩ := list32b xs h
  obtain ⟨b0, b1, b2, b3, b4, b5, b6, b7, b8, b9, b10, b11, b12, b13, b14, b15, b16, b17, b18, b19, b20, b21, b22, b23, b24, b25, b26, b27, b28, b29, b30, b31, rfl⟩ := list32b ys k
  kernel_rfl
theorem built_us (xs ys : List Int) (h : xs.length = 32) (k : ys.length = 32) (o x z : Int) (p q r : Nat) : Tryd.prog.built 108 [(0, .int .i64 (q : Int)), (1, .int .i64 (r : Int)), (2, .agg (ptL xs o).toArray), (3, .agg (cnCells ⟨x, ys, z, p⟩).toArray)] = some (usCells ⟨q, r, (xs, o), ⟨x, ys, z, p⟩⟩).toArray := by
  obtain ⟨a0, a1, a2, a3, a4, a5, a6, a7, a8, a9, a10, a11, a12, a13, a14, a15, a16, a17, a18, a19, a20, a21, a22, a23, a24, a25, a26, a27, a28, a29, a30, a31, rfl⟩ := list32b xs h
  obtain ⟨b0, b1, b2, b3, b4, b5, b6, b7, b8, b9, b10, b11, b12, b13, b14, b15, b16, b17, b18, b19, b20, b21, b22, b23, b24, b25, b26, b27, b28, b29, b30, b31, rfl⟩ := list32b ys k
  kernel_rfl
theorem zero_cn (w : World) : (zeroValue 106).run Tryd.prog w = .ok (cnv cn0) w := by kernel_rfl
/-! ### scripts -/
theorem bytesRow_take (s : ByteArray) (c : Nat) : ((bytesRow s c).toList.drop 0).take s.size = nums .u8 (bytesOf s) := by
  unfold bytesRow
  rw [List.drop_zero, Array.toList_append, Array.toList_map, List.take_left' (by rw [List.length_map, data_length])]
  unfold nums bytesOf
  rw [List.map_map]
  rfl
theorem conv_str (w : World) (s : ByteArray) : ∃ c W, (convert 9 22 (.string s)).run Tryd.prog w = .ok (.slice (some ⟨w.heap.size, 0, none⟩) s.size c) W ∧ s.size ≤ c ∧ Rd W (some ⟨w.heap.size, 0, none⟩) s.size (nums .u8 (bytesOf s)) ∧ Below w.heap.size w W := by
  refine ⟨_, _, run_bytes_of_string w 9 22 5 s Tryd.underlying9 Tryd.underlying22 Tryd.underlying5, grownCap_ge _ _ _ _, ?_, (Below.drew (Below.refl _ _)).alloc (Nat.le_refl _) _⟩
  have hc := grownCap_ge w s.size 0 5
  have h1 := heap_alloc_new w.drew (.cells (bytesRow s (grownCap w s.size 0 5)) 5 ((bytesRow s (grownCap w s.size 0 5)).size, (bytesRow s (grownCap w s.size 0 5)).size + 1))
  have h2 := Rd.of_block h1 (o := 0) s.size (by
    unfold bytesRow
    rw [Array.size_append, Array.size_map, Array.size_replicate, ← Array.length_toList, data_length]
    omega)
  rw [bytesRow_take] at h2
  exact h2
set_option maxHeartbeats 4000000 in
theorem script_calls (w : World) (hT : Tabs w) (s : ByteArray) (hs : s.size ≤ maxLen) :
    Calls Tryd.prog 49 #[.string s] w fun e w' => e = .returned (.agg (nums .u8 (sumF (bytesOf s))).toArray) ∧ Below w.heap.size w w' := by
  have hsl := sumF_length (bytesOf s)
  have hT0 := hT.alloc (.cells (nums .u8 zeros32).toArray 24)
  have hb0 : Below w.heap.size w (w.alloc (.cells (nums .u8 zeros32).toArray 24)) := (Below.refl _ _).alloc (Nat.le_refl _) _
  have h00 := heap_alloc_new w (.cells (nums .u8 zeros32).toArray 24)
  go_enter Tryd.func49, Tryd.ntmps49
  go_upto_region 1 with fail
  refine wp_gen (q := fun wi => Below w.heap.size w wi ∧ wi.heap[w.heap.size]? = some (.cells (nums .u8 zeros32).toArray 24) ∧ Tabs wi) ⟨hb0, h00, hT0⟩ (fun w0 hw => ?_)
  clear hT0 hb0 h00
  obtain ⟨hb0, h00, hT0⟩ := hw
  obtain ⟨c1, w1, kc, hsc, hR, hb1⟩ := conv_str w0 s
  have hB1 := below_then hb0 hb0.size hb1
  have hT1 := hT0.below hb1
  have h01 := heap_below hb1 h00
  clear hT0 hb0 h00 hb1
  go_wp2_with fail
  refine (sum_calls _ s.size c1 (bytesOf s) w1 hs hsc (bytesOf_bytes s) hR hT1).mono ?_
  rintro e w2 ⟨rfl, hb2⟩
  have h02 := heap_below hb2 h01
  have hB2 := below_then hB1 hB1.size hb2
  clear kc
  go_wp2_with (first | (refine wpList_store_any rfl 24 (.tmp 2) (.tmp 5) rfl w.heap.size (nums .u8 (sumF (bytesOf s))).toArray rfl rfl 24 (nums .u8 zeros32).toArray h02 (info_h _ hsl) (size_h _ hsl) (nums_all _ _) ?_; intro w4 h4 ht4))
  refine bodyPost_ret (results_cell_row rfl _ _ w.heap.size 24 (nums .u8 (sumF (bytesOf s))).toArray (0, 0) _ rfl h4 Tryd.underlying24 rfl (info_h _ hsl)) rfl ⟨rfl, ht4.below hB2 (Nat.le_refl _)⟩
end Go.Proofs.YtclkgflficlmiaaDoor
end

/-! ## CoinSet -/
section
set_option maxRecDepth 100000
set_option linter.unusedVariables false
namespace Go.Proofs.YtclkgflficlmiaaDoor
open Go Go.RowKit
abbrev SetV (w : World) (b : Nat) (m : List (Pt × Cn)) : Prop := MapV PtOk w b pkv cnv m
/-- Every entry is in form. -/
def SetOk (m : List (Pt × Cn)) : Prop := ∀ x ∈ m, MkOk x
theorem SetOk.look {m : List (Pt × Cn)} (h : SetOk m) {p : Pt} {c : Cn} (hl : m.lookup p = some c) : c.Ok := (h _ (lookup_mem hl)).2
def coinR (m : List (Pt × Cn)) (p : Pt) : Cn := (m.lookup p).getD cn0
theorem coinR_ok {m : List (Pt × Cn)} (h : SetOk m) (p : Pt) : (coinR m p).Ok := by
  unfold coinR
  cases hl : m.lookup p with
  | none => exact cn0_ok
  | some c => exact h.look hl
set_option maxHeartbeats 4000000 in
theorem setcoin_calls (w : World) (b : Nat) (m : List (Pt × Cn)) (hM : SetV w b m) (hS : SetOk m) (p : Pt) (hp : PtOk p) :
    Calls Tryd.prog 119 #[.map (some b), .agg (ptL p.1 p.2).toArray] w fun e w' => e = .returned (.tuple #[.agg (cnCells (coinR m p)).toArray, .bool (m.lookup p).isSome, .int .i64 0]) ∧ Below w.heap.size w w' := by
  have hUP := Tryd.underlying64
  have hUC := Tryd.underlying106
  have hUM := Tryd.underlying100
  have hck := coinR_ok hS p
  have h1 := heap_alloc_new w (.cells (ptL p.1 p.2).toArray 64)
  have h2 := heap_alloc_new (w.alloc (.cells (ptL p.1 p.2).toArray 64)) (.cells (cnCells cn0).toArray 106)
  have hb0 : Below w.heap.size w ((w.alloc (.cells (ptL p.1 p.2).toArray 64)).alloc (.cells (cnCells cn0).toArray 106)) := ((Below.refl _ _).alloc (Nat.le_refl _) _).alloc (by simp) _
  have h1' := blk_alloc h1 (.cells (cnCells cn0).toArray 106)
  have e1 : (w.alloc (.cells (ptL p.1 p.2).toArray 64)).heap.size = w.heap.size + 1 := by simp
  rw [e1] at h2
  go_enter Tryd.func119, Tryd.ntmps119
  go_upto_region 1 with fail
  refine wp_gen (q := fun wi => Below w.heap.size w wi ∧ wi.heap[w.heap.size]? = some (.cells (ptL p.1 p.2).toArray 64) ∧ wi.heap[w.heap.size + 1]? = some (.cells (cnCells cn0).toArray 106)) ⟨hb0, h1', h2⟩ (fun w0 hw => ?_)
  clear h1 h2 h1' hb0 e1
  obtain ⟨hb0, g1, g2⟩ := hw
  have hM0 := hM.below hb0
  have hlk := MapV.look (P := Tryd.prog) true keyPt hUM (zero_cn w0) hM0 hp
  have hrun : (Instr.lookup 100 (.map (some b)) (pkv p) true).run Tryd.prog w0 = .ok (.tuple #[.agg (cnCells (coinR m p)).toArray, .bool (m.lookup p).isSome]) w0 := by
    rw [hlk]
    unfold coinR
    cases m.lookup p <;> rfl
  have hsz := hb0.size
  have hlt2 := heap_lt g2
  clear hlk
  go_upto_region 2 with (first
    | ((with_reducible refine wpList_at 11 ?_); refine wpList_load_row rfl 64 (.tmp 3) rfl w.heap.size rfl 64 _ _ _ g1 hUP rfl (info_ptA hp.1.1 p.2) ?_)
    | ((with_reducible refine wpList_at 12 ?_); refine wpList_lookV rfl (.tmp 10) (.tmp 11) 100 true rfl (.map (some b)) (pkv p) _ rfl rfl hrun ?_)
    | ((with_reducible refine wpList_atS 7 ?_); refine wpList_store_any rfl 106 (.tmp 7) (.tmp 13) rfl w0.heap.size (cnCells (coinR m p)).toArray rfl rfl 106 (cnCells cn0).toArray (heap_alloc_new _ _) (info_cnA hck) (size_cn cn0_ok hck) (cnCells_all _) ?_; intro w2 k2 ht2))
  have hb2 : Below w0.heap.size w0 w2 := ht2.below ((Below.refl _ _).alloc (Nat.le_refl _) _) (Nat.le_refl _)
  have hB2 := below_then hb0 hb0.size hb2
  have g22 := heap_below hb2 g2
  clear hb0 g1 g2 hM0 hrun hb2 ht2
  go_wp2_with (first
    | ((with_reducible refine wpList_at 15 ?_); refine wpList_load_row rfl 106 (.tmp 7) rfl w0.heap.size rfl 106 _ _ _ k2 hUC rfl (info_cnA hck) ?_)
    | ((with_reducible refine wpList_atS 4 ?_); refine wpList_store_any rfl 106 (.tmp 4) (.tmp 15) rfl (w.heap.size + 1) (cnCells (coinR m p)).toArray rfl rfl 106 (cnCells cn0).toArray g22 (info_cnA hck) (size_cn cn0_ok hck) (cnCells_all _) ?_; intro w3 k3 ht3))
  exact bodyPost_ret (results_cell_tmp2 rfl _ _ (w.heap.size + 1) 106 (cnCells (coinR m p)).toArray (0, 0) _ rfl k3 hUC rfl (info_cnA hck)) rfl ⟨rfl, ht3.below hB2 (by omega)⟩
def openR (m : List (Pt × Cn)) (id : List Int) : Bool := m.any (fun p => p.1.1 == id)
theorem SetOk.pt {m : List (Pt × Cn)} (h : SetOk m) {j : Nat} {x : Pt} {v : Cn} {l : List (Pt × Cn)} (hs : l.Sublist m) (hj : l[j]? = some (x, v)) : PtOk x := (h _ (hs.subset (List.mem_of_getElem? hj))).1
theorem any_erase {l : List (Pt × Cn)} {j : Nat} {x : Pt} {v : Cn} (hj : l[j]? = some (x, v)) (id : List Int) : openR l id = (x.1 == id || openR (l.eraseIdx j) id) := by
  unfold openR
  induction l generalizing j with
  | nil => simp at hj
  | cons a r ih =>
    cases j with
    | zero =>
      obtain rfl : a = (x, v) := by simpa using hj
      rfl
    | succ j =>
      rw [List.getElem?_cons_succ] at hj
      rw [List.eraseIdx_cons_succ, List.any_cons, List.any_cons, ih hj]
      cases a.1.1 == id <;> cases x.1 == id <;> rfl
set_option maxHeartbeats 4000000 in
theorem setopen_calls (w : World) (b : Nat) (m : List (Pt × Cn)) (hM : SetV w b m) (hS : SetOk m) (id : List Int) (hd : Dig id) :
    Calls Tryd.prog 120 #[.map (some b), .agg (nums .u8 id).toArray] w fun e w' => e = .returned (.tuple #[.bool (openR m id), .int .i64 0]) ∧ Below w.heap.size w w' := by
  have hUP := Tryd.underlying64
  have hUH := Tryd.underlying24
  have hUM := Tryd.underlying100
  have hs := Lib.hid hS
  have h1 := heap_alloc_new w (.cells (nums .u8 id).toArray 24)
  have hb0 : Below w.heap.size w (w.alloc (.cells (nums .u8 id).toArray 24)) := (Below.refl _ _).alloc (Nat.le_refl _) _
  go_enter Tryd.func120, Tryd.ntmps120
  go_upto_region 1 with fail
  refine wp_gen (q := fun wi => Below w.heap.size w wi ∧ wi.heap[w.heap.size]? = some (.cells (nums .u8 id).toArray 24)) ⟨hb0, h1⟩ (fun w0 hw => ?_)
  clear h1 hb0 hS
  obtain ⟨hb0, g1⟩ := hw
  have hM0 := hM.below hb0
  clear hM
  go_wp2_with ((with_reducible refine wpList_at 8 ?_); refine wpList_rangeV rfl (.tmp 7) 100 64 106 rfl hUM rfl hM0 ?_; intro w1 hr1 hb1 hs1; go_frame)
  have hB1 := below_then hb0 hb0.size hb1
  have g2 := heap_below hb1 g1
  have hws : w.heap.size < w0.heap.size := heap_lt g1
  have hmO : Hid (openR m id = openR m id) := Lib.hid rfl
  clear hb0 g1 hM0 hb1
  go_loopw [9] (fun _ wr => ∃ lft, RangeV PtOk wr b w0.heap.size pkv cnv m lft ∧ Hid (openR m id = openR lft id) ∧ wr.heap[w.heap.size]? = some (.cells (nums .u8 id).toArray 24) ∧ Below w.heap.size w wr) (fun _ wr => wr.rangeLeft b w0.heap.size)
  case atStart => exact ⟨m, hr1, hmO, g2, hB1⟩
  case round =>
    clear hr1 hmO g2 hB1 hs1
    obtain ⟨lft, hr, HO, g, hB⟩ := hrel
    go_wp2_with ((with_reducible refine wpList_at 9 ?_); refine wpList_nextV rfl (.tmp 8) rfl rfl hr ?_ ?_)
    · intro hl0
      subst hl0
      have HF : Hid (openR m id = false) := Lib.hid (by rw [HO.out]; rfl)
      go_wp2
      go_ret2
      exact ⟨by rw [HF.out]; rfl, hB⟩
    · intro j pa pb v w2 hj hr2 ht hen
      have hpo := hs.out.pt hr.sub hj
      have hll : (lft.eraseIdx j).length < lft.length := by
        have := (List.getElem?_eq_some_iff.1 hj).1
        rw [List.length_eraseIdx_of_lt this]
        omega
      have hM1 := Lib.hid hr.left_eq
      have HE : Hid (openR lft id = (pa == id || openR (lft.eraseIdx j) id)) := Lib.hid (any_erase hj id)
      have hen' : (Instr.entry (.pointer (some ⟨w0.heap.size, 0, none⟩))).run Tryd.prog w2 = .ok (.tuple #[.agg (ptL pa pb).toArray, .agg (cnCells v).toArray]) w2 := hen
      have g2 := ht.keep g (by omega)
      have hlr := hr.lt
      have hszB := hB.size
      have hB2 := ht.below hB (by omega)
      have hs2 : wr.heap.size ≤ w2.heap.size := by have := ht.size; omega
      clear hen hj g hB ht
      go_upto_region 4 with (first
        | ((with_reducible refine wpList_atS 6 ?_); refine wpList_store_any rfl 64 (.tmp 6) (.tmp 12) rfl w2.heap.size (ptL pa pb).toArray rfl rfl 64 (ptL zeros32 0).toArray (heap_alloc_new _ _) (info_ptA hpo.1.1 pb) (size_pt zeros32_len hpo.1.1 0 pb) (ptL_all _ _) ?_; intro w3 k3 ht3))
      have hb3 : Below w2.heap.size w2 w3 := ht3.below ((Below.refl _ _).alloc (Nat.le_refl _) _) (Nat.le_refl _)
      have hr3 := hr2.below hb3
      have g3 := heap_below hb3 g2
      have hB3 := below_then hB2 hB2.size hb3
      have r3 := range_pt_id (range_block (xs := ptL pa pb) k3)
      have r3' := range_block (xs := nums .u8 id) g3
      have hid1 := info_hh pa hpo.1.1
      have hid2 := info_hh id hd.1
      have hMl := Lib.hid hr3.left_eq
      clear hen' hr2 g2 hB2 hb3 ht3 hr
      cases hc : pa == id with
      | true =>
        have HF : Hid (openR m id = true) := Lib.hid (by rw [HO.out, HE.out, hc]; rfl)
        have hNE : ∀ W, (Op.equalIn 10000 24 (.agg (nums .u8 pa).toArray) (.agg (nums .u8 id).toArray)).run Tryd.prog W = .ok true W := fun W => by
          rw [run_equalIn_nums (P := Tryd.prog) W 9998 24 5 32 .u8 .u8 Tryd.underlying24 Tryd.underlying5 info_u8 pa id hpo.1.1 hd.1, hc]
        clear hc HE HO
        go_wp2_with (first
          | ((with_reducible refine wpList_at 14 ?_); refine wpList_load_mid rfl 24 (.tmp 13) rfl w2.heap.size 0 rfl (nums .u8 pa) _ r3 hUH rfl hid1 ?_)
          | ((with_reducible refine wpList_at 15 ?_); refine wpList_load_mid rfl 24 (.tmp 3) rfl w.heap.size 0 rfl (nums .u8 id) _ r3' hUH rfl hid2 ?_))
        go_ret2
        exact ⟨by rw [HF.out]; rfl, hB3⟩
      | false =>
        have HF : Hid (openR m id = openR (lft.eraseIdx j) id) := Lib.hid (by rw [HO.out, HE.out, hc]; rfl)
        have hNE : ∀ W, (Op.equalIn 10000 24 (.agg (nums .u8 pa).toArray) (.agg (nums .u8 id).toArray)).run Tryd.prog W = .ok false W := fun W => by
          rw [run_equalIn_nums (P := Tryd.prog) W 9998 24 5 32 .u8 .u8 Tryd.underlying24 Tryd.underlying5 info_u8 pa id hpo.1.1 hd.1, hc]
        clear hc HE HO
        go_wp2_with (first
          | ((with_reducible refine wpList_at 14 ?_); refine wpList_load_mid rfl 24 (.tmp 13) rfl w2.heap.size 0 rfl (nums .u8 pa) _ r3 hUH rfl hid1 ?_)
          | ((with_reducible refine wpList_at 15 ?_); refine wpList_load_mid rfl 24 (.tmp 3) rfl w.heap.size 0 rfl (nums .u8 id) _ r3' hUH rfl hid2 ?_))
        go_roundw
        case rel => exact ⟨lft.eraseIdx j, hr3, HF, g3, hB3⟩
        case measure => rw [hMl.out, hM1.out]; omega
set_option maxHeartbeats 4000000 in
theorem badopen_calls (w : World) (x : Int) (id : List Int) :
    Calls Tryd.prog 118 #[.agg #[.int .i64 x], .agg (nums .u8 id).toArray] w fun e w' => e = .returned (.tuple #[.bool false, .int .i64 x]) ∧ Below w.heap.size w w' := by
  have h1 := heap_alloc_new w (.cells #[.int .i64 x] 90)
  have h1' := blk_alloc h1 (.cells (nums .u8 id).toArray 24)
  have hb0 : Below w.heap.size w ((w.alloc (.cells #[.int .i64 x] 90)).alloc (.cells (nums .u8 id).toArray 24)) := ((Below.refl _ _).alloc (Nat.le_refl _) _).alloc (by simp) _
  go_enter Tryd.func118, Tryd.ntmps118
  go_upto_region 1 with fail
  refine wp_gen (q := fun wi => Below w.heap.size w wi ∧ wi.cell? ⟨w.heap.size, 0, none⟩ = some (.int .i64 x)) ⟨hb0, blk_cell h1' rfl⟩ (fun w0 hw => ?_)
  clear h1 h1' hb0
  obtain ⟨hb0, hc⟩ := hw
  go_quiet (fail)
  rename_i nq
  have hBf := below_drewN hb0 nq
  go_wp2
  go_ret2
  exact ⟨rfl, hBf⟩
/-- A call through an interface whose dynamic type's method is known. -/
theorem wpList_invoke {P : Program} {ops : Array Oper} {rest : List Oper} {o : Oper} {a : Act} {w : World} {Q : Exit → Act → World → Prop} (hg : o.guard = none) (r x : Operand) (nm : String) (ats : Array TypeId) (hop : o.op = .call { callee := .invoke r nm, args := #[x], argTypes := ats })
    (vr vx : Value) (hr : a.eval r = vr) (hx : a.eval x = vx) (f : FuncId) (args : Array Value) (hm : (callMethod vr nm #[vx]).run P w = .ok (.enter f args) w) (v : Value) (hc : Calls P f args w fun e w' => e = .returned v ∧ Below w.heap.size w w')
    (h : ∀ w', Below w.heap.size w w' → wpList P ops Q rest (a.put o.dst v) w') : wpList P ops Q (o :: rest) a w := by
  refine wpList_plain hg fun K' hK' => ?_
  have he : (execOp a.eval o).run P w = .ok (.enter f args) w := by
    simp [execOp, hop, resolve, invoke, hr, hx, hm]
  unfold Oper.wp
  rw [he, Oper.upon_enter]
  refine hc.mono ?_
  rintro e w' ⟨rfl, hb⟩
  exact hK' _ _ (h w' hb)
/-- A view, in plain terms: its own error, and the outputs that it knows; G: what it needs of the world. -/
structure ViewOk (vw : Value) (eF : Int) (m : List (Pt × Cn)) (G : World → Prop) : Prop where
  nn : ∃ t v, vw = .iface t v
  keep : ∀ {w w' : World}, G w → Below w.heap.size w w' → G w'
  set : SetOk m
  rng : ∀ x ∈ m, 0 ≤ x.2.coins ∧ x.2.coins ≤ topM
  op : ∀ w, G w → ∀ id, Dig id → ∃ f args, (callMethod vw "Open" #[.agg (nums .u8 id).toArray]).run Tryd.prog w = .ok (.enter f args) w ∧ Calls Tryd.prog f args w fun e w' => e = .returned (.tuple #[.bool (openR m id), .int .i64 eF]) ∧ Below w.heap.size w w'
  cn : eF = 0 → ∀ w, G w → ∀ p, PtOk p → ∃ f args, (callMethod vw "Coin" #[.agg (ptL p.1 p.2).toArray]).run Tryd.prog w = .ok (.enter f args) w ∧ Calls Tryd.prog f args w fun e w' => e = .returned (.tuple #[.agg (cnCells (coinR m p)).toArray, .bool (m.lookup p).isSome, .int .i64 0]) ∧ Below w.heap.size w w'
def setV (b : Nat) : Value := .iface 100 (.map (some b))
def badV (x : Int) : Value := .iface 90 (.agg #[.int .i64 x])
theorem set_view {b : Nat} {m : List (Pt × Cn)} (hS : SetOk m) (hR : ∀ x ∈ m, 0 ≤ x.2.coins ∧ x.2.coins ≤ topM) : ViewOk (setV b) 0 m (fun w => SetV w b m) where
  nn := ⟨_, _, rfl⟩
  keep := fun h hb => MapV.below h hb
  set := hS
  rng := hR
  op := fun w hG id hd => ⟨120, #[.map (some b), .agg (nums .u8 id).toArray], by kernel_rfl, setopen_calls w b m hG hS id hd⟩
  cn := fun _ w hG p hp => ⟨119, #[.map (some b), .agg (ptL p.1 p.2).toArray], by kernel_rfl, setcoin_calls w b m hG hS p hp⟩
theorem bad_view (x : Int) (hx : x ≠ 0) : ViewOk (badV x) x [] (fun _ => True) where
  nn := ⟨_, _, rfl⟩
  keep := fun h _ => h
  set := fun x hx => by cases hx
  rng := fun x hx => by cases hx
  op := fun w _ id _ => ⟨118, #[.agg #[.int .i64 x], .agg (nums .u8 id).toArray], by kernel_rfl, badopen_calls w x id⟩
  cn := fun h => absurd h hx
end Go.Proofs.YtclkgflficlmiaaDoor
end

/-! ## CoinPl -/
section
set_option maxRecDepth 100000
set_option linter.unusedVariables false
namespace Go.Proofs.YtclkgflficlmiaaDoor
open Go Go.RowKit
abbrev dz : Array Value := #[.slice none 0 0, .slice none 0 0, .slice none 0 0, .int .i64 0]
def us0 : Us := ⟨0, 0, (zeros32, 0), cn0⟩
def mk0 : Pt × Cn := ((zeros32, 0), cn0)
theorem zinfo_us : (Tryd.prog.info? 108).map (fun i => (i.zero, i.size, i.bytes)) = some (some (.agg (usCells us0).toArray), 70, 112) := by kernel_rfl
theorem zinfo_mk : (Tryd.prog.info? 110).map (fun i => (i.zero, i.size, i.bytes)) = some (some (.agg (mkCells mk0).toArray), 68, 96) := by kernel_rfl
theorem info_d (x0 x1 x2 x3 : Value) : (Tryd.prog.info? 86).map (·.size) = some (#[x0, x1, x2, x3] : Array Value).size := by rw [show (#[x0, x1, x2, x3] : Array Value).size = 4 from rfl]; kernel_rfl
theorem one_d (A B C : Option Addr) (n c m d k e : Nat) (x : Int) : (#[.slice A n c, .slice B m d, .slice C k e, .int .i64 x] : Array Value).all (·.oneCell') = true := by
  rw [Array.all_eq_true']
  intro u hu
  simp only [List.mem_toArray, List.mem_cons, List.not_mem_nil, or_false] at hu
  rcases hu with rfl | rfl | rfl | rfl <;> rfl
theorem C1 {α : Type} {d : RK α} {w : World} {g : Nat} {t : TypeId} {fz : Nat × Nat} {x : α} {cs : List Value} (h : w.heap[g]? = some (.cells cs.toArray t fz)) (hK : d.K (fun _ => True) w x cs) : d.C (fun _ => True) w (some ⟨g, 0, none⟩) 1 [x] := by
  refine ⟨rfl, fun _ => ⟨g, 0, rfl, trivial, heap_lt h, fun i y hy => ?_⟩⟩
  obtain rfl : i = 0 := by have := (List.getElem?_eq_some_iff.1 hy).1; simp at this; omega
  obtain rfl : x = y := by simpa using hy
  refine ⟨_, hK, fun j v hv => ?_⟩
  rw [show 0 + 0 * d.sz + j = j by omega]
  exact blk_cell h (by rw [List.getElem?_toArray]; exact hv)
/-- How far coin.Plan is, in memory. -/
def PlM (wl : World) (gD gM gS base : Nat) (VI : Value) (st : PlS) (wr : World) : Prop :=
  ∃ A2 c2 A3 c3, wr.heap[gD]? = some (.cells #[VI, .slice A2 st.uses.length c2, .slice A3 st.makes.length c3, .int .i64 st.fees] 86) ∧
    usK.Own (fun _ => False) wr base 108 (.slice A2 st.uses.length c2) st.uses.length st.uses ∧ mkK.Own (fun _ => False) wr base 110 (.slice A3 st.makes.length c3) st.makes.length st.makes ∧
    MapV PtOk wr gM pkv cnv st.made ∧ MapV PtOk wr gS pkv Value.bool st.spent ∧ Below wl.heap.size wl wr ∧ base ≤ wr.heap.size
theorem PlM.below {wl wr w' : World} {gD gM gS base : Nat} {VI : Value} {st : PlS} (h : PlM wl gD gM gS base VI st wr) (hl : wl.heap.size ≤ base) (hb : Below wr.heap.size wr w') : PlM wl gD gM gS base VI st w' := by
  obtain ⟨A2, c2, A3, c3, h1, h2, h3, h4, h5, h6, h7⟩ := h
  exact ⟨A2, c2, A3, c3, heap_below hb h1, h2.below hb, h3.below hb, h4.below hb, h5.below hb, below_then h6 h6.size hb, Nat.le_trans h7 hb.size⟩
/-- What coin.Plan has found so far is in its bounds. -/
structure PlOk (st : PlS) (L : Nat) : Prop where
  made : SetOk st.made
  rng : ∀ x ∈ st.made, 0 ≤ x.2.coins ∧ x.2.coins ≤ topM
  uses : st.uses.length ≤ L
  makes : st.makes.length ≤ L
  mlen : st.made.length ≤ L
  slen : st.spent.length ≤ L
  f0 : 0 ≤ st.fees
  f1 : st.fees ≤ topM
def plInK (made m : List (Pt × Cn)) (k : Nat) (ins : List TIn) (sp : List (Pt × Bool)) (us : List Us) : Except Int (List (Pt × Bool) × List Us × Int) := if k = 0 then .ok (sp, us, 0) else plIns made m k 0 ins sp us 0
theorem plIns_step {ins : List TIn} {i : Nat} {x : TIn} (hx : ins[i]? = some x) (made m : List (Pt × Cn)) (k : Nat) (sp : List (Pt × Bool)) (us : List Us) (s : Int) : plIns made m k i (ins.drop i) sp us s =
    match seek made m x.pt with
    | none => .error 22
    | some c => if (sp.lookup x.pt).getD false then .error 22 else if topM < s + c.coins then .error 24 else plIns made m k (i + 1) (ins.drop (i + 1)) (putV sp x.pt true) (us ++ [⟨k, i, x.pt, c⟩]) (s + c.coins) := by
  obtain ⟨hi, he⟩ := List.getElem?_eq_some_iff.1 hx
  rw [List.drop_eq_getElem_cons hi, he, plIns]
  try rfl
def seekR (made m : List (Pt × Cn)) (p : Pt) : Cn := (seek made m p).getD cn0
theorem seek_made {made m : List (Pt × Cn)} {p : Pt} (h : (made.lookup p).isSome = true) : (seek made m p).isSome = true ∧ seekR made m p = coinR made p := by
  unfold seekR seek coinR
  cases hl : made.lookup p with
  | none => rw [hl] at h; cases h
  | some c => exact ⟨rfl, rfl⟩
theorem seek_set {made m : List (Pt × Cn)} {p : Pt} (h : (made.lookup p).isSome = false) : (seek made m p).isSome = (m.lookup p).isSome ∧ seekR made m p = coinR m p := by
  unfold seekR seek coinR
  cases hl : made.lookup p with
  | none => exact ⟨rfl, rfl⟩
  | some c => rw [hl] at h; cases h
theorem seek_rng {made m : List (Pt × Cn)} (h1 : SetOk made) (h2 : SetOk m) (r1 : ∀ x ∈ made, 0 ≤ x.2.coins ∧ x.2.coins ≤ topM) (r2 : ∀ x ∈ m, 0 ≤ x.2.coins ∧ x.2.coins ≤ topM) (p : Pt) : (seekR made m p).Ok ∧ 0 ≤ (seekR made m p).coins ∧ (seekR made m p).coins ≤ topM := by
  unfold seekR seek
  cases hl : made.lookup p with
  | some c => exact ⟨h1.look hl, r1 _ (lookup_mem hl)⟩
  | none =>
    cases hm : m.lookup p with
    | some c => exact ⟨h2.look hm, r2 _ (lookup_mem hm)⟩
    | none => exact ⟨cn0_ok, by decide, by decide⟩
theorem putV_length {α β : Type} [BEq α] : ∀ (m : List (α × β)) (a : α) (v : β), (putV m a v).length ≤ m.length + 1
  | [], a, v => by simp [putV]
  | (k, x) :: r, a, v => by
    rw [putV]
    split
    · simp
    · have := putV_length r a v
      simp only [List.length_cons]
      omega
theorem wpList_lookVG {P : Program} {ops : Array Oper} {rest : List Oper} {o : Oper} {a : Act} {w : World} {Q : Exit → Act → World → Prop} (hw : Region.wanted o (yielded ops a.tmps) = true) (m x : Operand) (t : TypeId) (c : Bool) (hop : o.op = Op.lookup t m x c) (mv key v : Value) (hm : a.eval m = mv) (hx : a.eval x = key) (hrun : (Instr.lookup t mv key c).run P w = .ok v w)
    (h : wpList P ops Q rest (a.put o.dst v) w) : wpList P ops Q (o :: rest) a w :=
  wpList_want hw fun _ hK => by
    unfold Oper.wp
    simp [execOp, hop, hm, hx, hrun, Result.andThen]
    exact hK _ _ h
/-- A row of the call's own stands while another one, of another type, grows. -/
theorem own_apart {α β : Type} {d : RK α} {d' : RK β} {w w' : World} {b b' n n' : Nat} {e e' : TypeId} {v v' : Value} {xs : List α} {ys : List β} (h : d.Own (fun _ => False) w b e v n xs) (h' : d'.Own (fun _ => False) w b' e' v' n' ys) (hne : e ≠ e') (hg : w.grownBy w' v'.ownBlock) :
    d.Own (fun _ => False) w' b e v n xs := by
  obtain ⟨h1, cells, h2, h3⟩ := h
  obtain ⟨_, cells', h2', _⟩ := h'
  refine ⟨h1, cells, World.ownsRow.kept h2 hg (own_type_ne h2 h2' hne), fun i x hx => ?_⟩
  obtain ⟨cs, hK, hcs⟩ := h3 i x hx
  exact ⟨cs, d.move (fun k hk _ => hk.elim) hK, hcs⟩
theorem yieldsIf_build {P : Program} {ops : Array Oper} {S : World → Prop} {op : Oper} {a : Act} (hw : Region.wanted op (yielded ops a.tmps) = true) (t : TypeId) (parts : Array (Nat × Operand)) (ho : op.op = .build t parts)
    (pv : List (Nat × Value)) (hp0 : parts.toList.map (fun y => (y.1, a.eval y.2)) = pv) (cs : Array Value) (hb : P.built t pv = some cs) : YieldsIf P ops S op (.agg cs) a :=
  .inl ⟨hw, fun w _ => by
    have hp : (parts.map fun (i, y) => (i, a.eval y)).toList = pv := by rw [Array.toList_map]; exact hp0
    have h := run_build (P := P) w t (parts.map fun (i, y) => (i, a.eval y)) cs (by rw [hp]; exact hb)
    unfold execOp
    simp only [ho, Sem.run_bind, h, Result.andThen_ok]
    rfl⟩
theorem mkOuts_snoc (id : List Int) (h : Int) (pos : Nat) (x : TOut) : ∀ (l : List TOut) (j : Nat), mkOuts id h pos j (l ++ [x]) = mkOuts id h pos j l ++ [((id, ((j + l.length : Nat) : Int)), mkCn x h pos)]
  | [], j => rfl
  | y :: l, j => by
    show ((id, (j : Int)), mkCn y h pos) :: mkOuts id h pos (j + 1) (l ++ [x]) = _
    rw [mkOuts_snoc id h pos x l (j + 1), show j + 1 + l.length = j + (y :: l).length by simp; omega]
    rfl
theorem mkOuts_take {id : List Int} {h : Int} {pos i : Nat} {x : TOut} {outs : List TOut} (hx : outs[i]? = some x) : mkOuts id h pos 0 (outs.take (i + 1)) = mkOuts id h pos 0 (outs.take i) ++ [((id, (i : Int)), mkCn x h pos)] := by
  have hi := (List.getElem?_eq_some_iff.1 hx).1
  rw [List.take_add_one, hx, Option.toList_some, mkOuts_snoc, List.length_take, Nat.min_eq_left (by omega), Nat.zero_add]
theorem mkOuts_length (id : List Int) (h : Int) (pos : Nat) : ∀ (l : List TOut) (j : Nat), (mkOuts id h pos j l).length = l.length
  | [], _ => rfl
  | _ :: l, j => by
    show (mkOuts id h pos (j + 1) l).length + 1 = _
    rw [mkOuts_length id h pos l (j + 1)]
    rfl
theorem putAll_snoc (m l : List (Pt × Cn)) (x : Pt × Cn) : putAll m (l ++ [x]) = putV (putAll m l) x.1 x.2 := by unfold putAll; rw [List.foldl_append]; rfl
theorem putAll_length : ∀ (l m : List (Pt × Cn)), (putAll m l).length ≤ m.length + l.length
  | [], m => Nat.le_refl _
  | x :: l, m => by
    show (putAll (putV m x.1 x.2) l).length ≤ _
    have := putAll_length l (putV m x.1 x.2)
    have := putV_length m x.1 x.2
    simp only [List.length_cons]
    omega
theorem mem_putV {α β : Type} [BEq α] : ∀ {m : List (α × β)} {a : α} {v : β} {x : α × β}, x ∈ putV m a v → x ∈ m ∨ x = (a, v)
  | [], a, v, x, h => by
    rw [putV, List.mem_singleton] at h
    exact Or.inr h
  | (k, y) :: r, a, v, x, h => by
    rw [putV] at h
    split at h
    · rcases List.mem_cons.1 h with h | h
      · exact Or.inr h
      · exact Or.inl (List.mem_cons_of_mem _ h)
    · rcases List.mem_cons.1 h with h | h
      · exact Or.inl (by rw [h]; simp)
      · rcases mem_putV h with h | h
        · exact Or.inl (List.mem_cons_of_mem _ h)
        · exact Or.inr h
theorem mem_putAll : ∀ {l m : List (Pt × Cn)} {x : Pt × Cn}, x ∈ putAll m l → x ∈ m ∨ x ∈ l
  | [], m, x, h => Or.inl h
  | y :: l, m, x, h => by
    rcases mem_putAll (l := l) (m := putV m y.1 y.2) h with h | h
    · rcases mem_putV h with h | h
      · exact Or.inl h
      · exact Or.inr (by rw [h]; simp)
    · exact Or.inr (List.mem_cons_of_mem _ h)
end Go.Proofs.YtclkgflficlmiaaDoor
end
