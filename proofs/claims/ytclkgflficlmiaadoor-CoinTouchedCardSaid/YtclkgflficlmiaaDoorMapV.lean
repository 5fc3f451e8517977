/- A map that the call made itself: what it holds, looked up, put, struck; for any keys and elements. -/
import Derived.Maps.Keyed
import Derived.Maps.Own
import Derived.Test.YtclkgflficlmiaaDoorBase
set_option linter.unusedVariables false
namespace Go.Proofs.YtclkgflficlmiaaDoor
open Go Go.RowKit Go.Maps Go.MapKept Go.ChangeMaps Go.WideMaps
/-- Keys of type k, read as α. -/
structure KeyK (P : Program) (k : TypeId) {α : Type} (kv : α → Value) (ok : α → Prop) : Prop where
  law : Keyed P k
  key : ∀ a, ok a → ∃ l, keyOf P k (kv a) = some l
  inj : ∀ a b, kv a = kv b → a = b
/-- Block b is a map with these entries, in this order. -/
def MapV {α β : Type} (ok : α → Prop) (w : World) (b : Nat) (kv : α → Value) (vv : β → Value) (m : List (α × β)) : Prop :=
  ∃ es clock, w.heap[b]? = some (.map es clock) ∧ Stamped es clock ∧ es.size ≤ maxLen ∧ es.toList.map (fun x => (x.key, x.val)) = m.map (fun p => (kv p.1, vv p.2)) ∧ ∀ p ∈ m, ok p.1
section
variable {α β : Type} [BEq α] [LawfulBEq α] {P : Program} {k e t : TypeId} {kv : α → Value} {ok : α → Prop} {vv : β → Value} {w w' : World} {b : Nat} {m : List (α × β)}
def putV (m : List (α × β)) (a : α) (v : β) : List (α × β) := match m with
  | [] => [(a, v)]
  | (k, x) :: r => if k == a then (a, v) :: r else (k, x) :: putV r a v
def delV (m : List (α × β)) (a : α) : List (α × β) := match m with
  | [] => []
  | (k, x) :: r => if k == a then r else (k, x) :: delV r a
omit [BEq α] [LawfulBEq α] in
theorem MapV.made (w : World) : MapV ok (w.alloc (.map #[] 0)) w.heap.size kv vv ([] : List (α × β)) :=
  ⟨#[], 0, heap_alloc_new _ _, ⟨by simp, by simp, by simp⟩, Nat.zero_le _, rfl, (fun p h => by cases h)⟩
omit [BEq α] [LawfulBEq α] in
theorem MapV.keep (h : MapV ok w b kv vv m) (hb : w'.heap[b]? = w.heap[b]?) : MapV ok w' b kv vv m := by
  obtain ⟨es, clock, h1, h2⟩ := h
  exact ⟨es, clock, hb.trans h1, h2⟩
omit [BEq α] [LawfulBEq α] in
theorem MapV.lt (h : MapV ok w b kv vv m) : b < w.heap.size := by
  obtain ⟨es, clock, h1, _⟩ := h
  exact (Array.getElem?_eq_some_iff.1 h1).1
omit [BEq α] [LawfulBEq α] in
theorem MapV.below (h : MapV ok w b kv vv m) (hb : Below w.heap.size w w') : MapV ok w' b kv vv m := h.keep (hb.block b h.lt)
omit [BEq α] [LawfulBEq α] in
theorem MapV.grown {row : Option Nat} (h : MapV ok w b kv vv m) (hg : w.grownBy w' row) (hne : some b ≠ row) : MapV ok w' b kv vv m := h.keep (hg.block b h.lt hne)
omit [BEq α] [LawfulBEq α] in
theorem MapV.apart (h : MapV ok w b kv vv m) : (m.map Prod.fst).Nodup := by
  obtain ⟨es, clock, _, hs, _, hm, _⟩ := h
  have h1 : es.toList.map (·.key) = (m.map Prod.fst).map kv := by
    have := congrArg (List.map Prod.fst) hm
    simpa [List.map_map, Function.comp_def] using this
  have h2 := hs.2.2
  rw [h1] at h2
  exact (List.pairwise_map.1 h2).imp (fun hne e => hne (by rw [e]))
omit [BEq α] [LawfulBEq α] in
theorem MapV.size (h : MapV ok w b kv vv m) : m.length ≤ maxLen := by
  obtain ⟨es, clock, _, _, hl, hm, _⟩ := h
  have := congrArg List.length hm
  simp at this
  omega
theorem lookup_none : ∀ (m : List (α × β)) (a : α), (∀ p ∈ m, p.1 ≠ a) → m.lookup a = none
  | [], _, _ => rfl
  | (k, x) :: r, a, h => by
    have h1 : (a == k) = false := beq_eq_false_iff_ne.2 (fun e => h (k, x) (by simp) e.symm)
    rw [List.lookup_cons, h1]
    exact lookup_none r a (fun p hp => h p (by simp [hp]))
theorem lookup_at : ∀ (m : List (α × β)) (j : Nat) (a : α) (v : β), (m.map Prod.fst).Nodup → m[j]? = some (a, v) → m.lookup a = some v
  | [], j, a, v, _, h => by simp at h
  | (k, x) :: r, 0, a, v, _, h => by
    obtain ⟨rfl, rfl⟩ : k = a ∧ x = v := by simpa using h
    rw [List.lookup_cons, beq_self_eq_true]
  | (k, x) :: r, j + 1, a, v, hn, h => by
    rw [List.map_cons, List.nodup_cons] at hn
    have hm : (a, v) ∈ r := List.mem_of_getElem? (by simpa using h)
    have h1 : (a == k) = false := beq_eq_false_iff_ne.2 (fun e => hn.1 (by rw [← e]; exact List.mem_map.2 ⟨(a, v), hm, rfl⟩))
    rw [List.lookup_cons, h1]
    exact lookup_at r j a v hn.2 (by simpa using h)
theorem putV_new : ∀ (m : List (α × β)) (a : α) (v : β), (∀ p ∈ m, p.1 ≠ a) → putV m a v = m ++ [(a, v)]
  | [], _, _, _ => rfl
  | (k, x) :: r, a, v, h => by
    have h1 : (k == a) = false := beq_eq_false_iff_ne.2 (h (k, x) (by simp))
    rw [putV, h1, putV_new r a v (fun p hp => h p (by simp [hp]))]
    rfl
theorem putV_at : ∀ (m : List (α × β)) (j : Nat) (a : α) (u v : β), (m.map Prod.fst).Nodup → m[j]? = some (a, u) → putV m a v = m.set j (a, v)
  | [], j, a, u, v, _, h => by simp at h
  | (k, x) :: r, 0, a, u, v, _, h => by
    obtain ⟨rfl, rfl⟩ : k = a ∧ x = u := by simpa using h
    rw [putV, beq_self_eq_true]
    rfl
  | (k, x) :: r, j + 1, a, u, v, hn, h => by
    rw [List.map_cons, List.nodup_cons] at hn
    have hm : (a, u) ∈ r := List.mem_of_getElem? (by simpa using h)
    have h1 : (k == a) = false := beq_eq_false_iff_ne.2 (fun e => hn.1 (by rw [e]; exact List.mem_map.2 ⟨(a, u), hm, rfl⟩))
    rw [putV, h1, List.set_cons_succ, putV_at r j a u v hn.2 (by simpa using h)]
    rfl
theorem delV_none : ∀ (m : List (α × β)) (a : α), (∀ p ∈ m, p.1 ≠ a) → delV m a = m
  | [], _, _ => rfl
  | (k, x) :: r, a, h => by
    have h1 : (k == a) = false := beq_eq_false_iff_ne.2 (h (k, x) (by simp))
    rw [delV, h1, delV_none r a (fun p hp => h p (by simp [hp]))]
    rfl
theorem delV_at : ∀ (m : List (α × β)) (j : Nat) (a : α) (u : β), (m.map Prod.fst).Nodup → m[j]? = some (a, u) → delV m a = m.eraseIdx j
  | [], j, a, u, _, h => by simp at h
  | (k, x) :: r, 0, a, u, _, h => by
    obtain ⟨rfl, rfl⟩ : k = a ∧ x = u := by simpa using h
    rw [delV, beq_self_eq_true]
    rfl
  | (k, x) :: r, j + 1, a, u, hn, h => by
    rw [List.map_cons, List.nodup_cons] at hn
    have hm : (a, u) ∈ r := List.mem_of_getElem? (by simpa using h)
    have h1 : (k == a) = false := beq_eq_false_iff_ne.2 (fun e => hn.1 (by rw [e]; exact List.mem_map.2 ⟨(a, u), hm, rfl⟩))
    rw [delV, h1, List.eraseIdx_cons_succ, delV_at r j a u hn.2 (by simpa using h)]
    rfl
theorem lookup_putV : ∀ (m : List (α × β)) (a c : α) (v : β), (putV m a v).lookup c = if c == a then some v else m.lookup c
  | [], a, c, v => by
    rw [putV, List.lookup_cons]
    cases c == a <;> rfl
  | (k, x) :: r, a, c, v => by
    rw [putV]
    by_cases hk : k = a
    · subst hk
      rw [beq_self_eq_true, if_pos rfl, List.lookup_cons, List.lookup_cons]
      cases c == k <;> rfl
    · have h1 : (k == a) = false := beq_eq_false_iff_ne.2 hk
      rw [h1, if_neg (by decide), List.lookup_cons, List.lookup_cons, lookup_putV r a c v]
      by_cases hc : c = k
      · subst hc
        rw [beq_self_eq_true, h1]
        simp
      · rw [beq_eq_false_iff_ne.2 hc]
omit [BEq α] [LawfulBEq α] in
/-- Where the key stands: nowhere, or at one place. -/
theorem MapV.find (KK : KeyK P k kv ok) (h : MapV ok w b kv vv m) {a : α} (ha : ok a) :
    ∃ es clock, w.heap[b]? = some (.map es clock) ∧ Stamped es clock ∧ es.size ≤ maxLen ∧ es.toList.map (fun x => (x.key, x.val)) = m.map (fun p => (kv p.1, vv p.2)) ∧
      (((Instr.findKey k (kv a) es.toList).run P w = .ok none w ∧ (∀ x ∈ es.toList, x.key ≠ kv a) ∧ ∀ p ∈ m, p.1 ≠ a) ∨
       ∃ j e0 v, (Instr.findKey k (kv a) es.toList).run P w = .ok (some (j, vv v)) w ∧ es.toList[j]? = some e0 ∧ e0.key = kv a ∧ e0.val = vv v ∧ m[j]? = some (a, v)) := by
  have hn := h.apart
  obtain ⟨es, clock, h1, h2, h3, h4, h5⟩ := h
  refine ⟨es, clock, h1, h2, h3, h4, ?_⟩
  obtain ⟨l, hl⟩ := KK.key a ha
  have at_ : ∀ (j : Nat) (e0 : MapEntry), es.toList[j]? = some e0 → ∃ p : α × β, m[j]? = some p ∧ e0.key = kv p.1 ∧ e0.val = vv p.2 := fun j e0 hj => by
    have := congrArg (fun l => l[j]?) h4
    simp only [List.getElem?_map, hj, Option.map_some] at this
    obtain ⟨p, hp, he⟩ := Option.map_eq_some_iff.1 this.symm
    simp only [Prod.mk.injEq] at he
    exact ⟨p, hp, he.1.symm, he.2.symm⟩
  have hk : ∀ x ∈ es.toList, ∃ l, keyOf P k x.key = some l := fun x hx => by
    obtain ⟨j, hj⟩ := List.getElem?_of_mem hx
    obtain ⟨p, hp, he, _⟩ := at_ j x hj
    rw [he]
    exact KK.key _ (h5 p (List.mem_of_getElem? hp))
  rcases KK.law.find w hl es.toList hk with ⟨q1, q2⟩ | ⟨j, e0, q1, q2, q3⟩
  · refine .inl ⟨q1, q2, fun p hp e => ?_⟩
    obtain ⟨j, hj⟩ := List.getElem?_of_mem hp
    have := congrArg (fun l => l[j]?) h4
    simp only [List.getElem?_map, hj, Option.map_some] at this
    obtain ⟨x, hx, he⟩ := Option.map_eq_some_iff.1 this
    simp only [Prod.mk.injEq] at he
    exact q2 x (List.mem_of_getElem? hx) (by rw [he.1, e])
  · obtain ⟨p, hp, r1, r2⟩ := at_ j e0 q2
    have hpa : p.1 = a := KK.inj _ _ (r1.symm.trans q3)
    refine .inr ⟨j, e0, p.2, by rw [q1, r2], q2, q3, r2, ?_⟩
    rw [hp, ← hpa]
/-- m[a], and v, there := m[a]. -/
theorem MapV.look (c : Bool) (KK : KeyK P k kv ok) (ht : P.underlying t = some (.map k e)) {z : Value} (hz : (zeroValue e).run P w = .ok z w) (h : MapV ok w b kv vv m) {a : α} (ha : ok a) :
    (Instr.lookup t (.map (some b)) (kv a) c).run P w = .ok (match m.lookup a with | some v => (if c then .tuple #[vv v, .bool true] else vv v) | none => (if c then .tuple #[z, .bool false] else z)) w := by
  have hn := h.apart
  obtain ⟨l, hl⟩ := KK.key a ha
  obtain ⟨es, clock, hb, _, _, _, hf⟩ := h.find KK ha
  rcases hf with ⟨q1, _, q2⟩ | ⟨j, e0, v, q1, _, _, _, q2⟩
  · rw [lookup_none m a q2]
    simp [Instr.lookup, run_underlying ht, MapKept.run_getObj_map hb, KK.law.check w _ hl, q1, hz, Result.andThen]
  · rw [lookup_at m j a v hn q2]
    simp [Instr.lookup, run_underlying ht, MapKept.run_getObj_map hb, KK.law.check w _ hl, q1, Result.andThen]
theorem turned_setBlock {es : Array MapEntry} {clock : Nat} (hb : w.heap[b]? = some (.map es clock)) (o : Obj) : Turned w b (setBlock w b o) :=
  ⟨rfl, rfl, rfl, by simp [setBlock], fun i hi => heap_setBlock_other hb o hi⟩
/-- m[a] = v. -/
theorem MapV.put (KK : KeyK P k kv ok) (ht : P.underlying t = some (.map k e)) (h : MapV ok w b kv vv m) (hroom : m.length < maxLen) {a : α} (ha : ok a) (v : β) :
    ∃ w', (Instr.mapUpdate t (.map (some b)) (kv a) (vv v)).run P w = .ok () w' ∧ MapV ok w' b kv vv (putV m a v) ∧ Turned w b w' := by
  have hn := h.apart
  have hok : ∀ p ∈ m, ok p.1 := by obtain ⟨_, _, _, _, _, _, h⟩ := h; exact h
  obtain ⟨l, hl⟩ := KK.key a ha
  obtain ⟨es, clock, hb, hs, hsz, hm, hf⟩ := h.find KK ha
  have hlen : es.size = m.length := by have := congrArg List.length hm; simpa using this
  rcases hf with ⟨q1, q3, q2⟩ | ⟨j, e0, u, q1, q2, q3, q4, q5⟩
  · refine ⟨setBlock w b (.map (es.push ⟨kv a, vv v, clock⟩) (clock + 1)), ?_, ⟨_, _, heap_setBlock_same hb _, stamped_push hs q3, by simp; omega, ?_, ?_⟩, turned_setBlock hb _⟩
    · simp [Instr.mapUpdate, run_underlying ht, MapKept.run_getObj_map hb, KK.law.check w false hl, q1, MapKept.run_setObj_map _ hb, Result.andThen, setBlock]
    · rw [putV_new m a v q2, Array.toList_push, List.map_append, List.map_append, hm]
      rfl
    · rw [putV_new m a v q2]
      intro p hp
      rcases List.mem_append.1 hp with hp | hp
      · exact hok p hp
      · rw [List.mem_singleton.1 hp]; exact ha
  · have hj : es[j]? = some e0 := by simpa using q2
    have hlist : (es.modify j (fun e' => { e' with key := kv a, val := vv v })).toList = es.toList.set j { e0 with key := kv a, val := vv v } := by rw [Array.toList_modify, modify_eq_set _ _ _ _ q2]
    refine ⟨setBlock w b (.map (es.modify j (fun e' => { e' with key := kv a, val := vv v })) clock), ?_, ⟨_, _, heap_setBlock_same hb _, stamped_modify hs _ _ (fun _ _ => rfl) (fun e' _ he' => by rw [hj] at he'; cases he'; exact q3.symm), by simpa using hsz, ?_, ?_⟩, turned_setBlock hb _⟩
    · simp [Instr.mapUpdate, run_underlying ht, MapKept.run_getObj_map hb, KK.law.check w false hl, q1, hj, q3, KK.law.stays w hl, MapKept.run_setObj_map _ hb, Result.andThen, setBlock]
    · rw [putV_at m j a u v hn q5, hlist, List.map_set, List.map_set, hm]
    · rw [putV_at m j a u v hn q5]
      intro p hp
      rcases List.mem_or_eq_of_mem_set hp with hp | rfl
      · exact hok p hp
      · exact ha
/-- delete(m, a). -/
theorem MapV.del {ty : TypeId} (KK : KeyK P k kv ok) (ht : P.underlying t = some (.map k e)) (h : MapV ok w b kv vv m) {a : α} (ha : ok a) :
    ∃ w', (Builtin.delete_ #[t, k] ty #[.map (some b), kv a]).run P w = .ok (.tuple #[]) w' ∧ MapV ok w' b kv vv (delV m a) ∧ Turned w b w' := by
  have hn := h.apart
  have hok : ∀ p ∈ m, ok p.1 := by obtain ⟨_, _, _, _, _, _, h⟩ := h; exact h
  obtain ⟨l, hl⟩ := KK.key a ha
  obtain ⟨es, clock, hb, hs, hsz, hm, hf⟩ := h.find KK ha
  rcases hf with ⟨q1, q3, q2⟩ | ⟨j, e0, u, q1, q2, q3, q4, q5⟩
  · refine ⟨setBlock w b (.map es clock), ?_, ⟨_, _, heap_setBlock_same hb _, hs, hsz, ?_, ?_⟩, turned_setBlock hb _⟩
    · simp [Builtin.delete_, run_underlying ht, MapKept.run_getObj_map hb, KK.law.check w _ hl, q1, MapKept.run_setObj_map _ hb, Result.andThen, setBlock]
    · rw [delV_none m a q2]; exact hm
    · rw [delV_none m a q2]; exact hok
  · have hjl : j < es.size := by have := (List.getElem?_eq_some_iff.1 q2).1; simpa using this
    have hsub : (es.eraseIdxIfInBounds j).toList = es.toList.eraseIdx j := by
      unfold Array.eraseIdxIfInBounds
      rw [dif_pos hjl]
      simp
    refine ⟨setBlock w b (.map (es.eraseIdxIfInBounds j) clock), ?_, ⟨_, _, heap_setBlock_same hb _, stamped_erase hs j, Nat.le_trans (MapFrom.size_erase es j) hsz, ?_, ?_⟩, turned_setBlock hb _⟩
    · simp [Builtin.delete_, run_underlying ht, MapKept.run_getObj_map hb, KK.law.check w _ hl, q1, MapKept.run_setObj_map _ hb, Result.andThen, setBlock]
    · rw [delV_at m j a u hn q5, hsub, map_eraseIdx, map_eraseIdx, hm]
    · rw [delV_at m j a u hn q5]
      exact fun p hp => hok p ((List.eraseIdx_sublist _ _).subset hp)
omit [BEq α] [LawfulBEq α] in
theorem MapV.len (ht : P.underlying t = some (.map k e)) (h : MapV ok w b kv vv m) (ty : TypeId) : (Builtin.len_ #[t] ty #[.map (some b)]).run P w = .ok (.int .i64 m.length) w := by
  obtain ⟨es, clock, hb, _, _, hm, _⟩ := h
  have hlen : es.size = m.length := by have := congrArg List.length hm; simpa using this
  simp [Builtin.len_, run_underlying ht, MapKept.run_getObj_map hb, goInt, Result.andThen, hlen]
end
end Go.Proofs.YtclkgflficlmiaaDoor
