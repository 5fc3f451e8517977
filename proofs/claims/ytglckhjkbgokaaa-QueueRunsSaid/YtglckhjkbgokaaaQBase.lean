/- Channels in memory: a store into a channel's block. -/
import Derived.Conc.LoneCalls
import Derived.Conc.LoneSelect
import Derived.Conc.LoneSelectN
import Derived.Test.YtglckhjkbgokaaaWords
namespace Go.Proofs.Ytglckhjkbgokaaa
open Go Go.RowKit Go.Conc
set_option linter.unusedVariables false
theorem setChan_set (w : World) (c a a' s s' r r' : Nat) (x y : Array Value) (k k' t t' : Bool) : (w.setChan c a x k s r t).setChan c a' y k' s' r' t' = w.setChan c a' y k' s' r' t' := by
  simp [World.setChan, Array.setIfInBounds_setIfInBounds]
theorem setChan_self (w : World) (c a s r : Nat) (x : Array Value) (k t : Bool) (h : w.heap[c]? = some (.chan a x k s r t)) : w.setChan c a x k s r t = w := by
  have : w.heap.setIfInBounds c (.chan a x k s r t) = w.heap := by
    apply Array.ext_getElem?
    intro i
    rw [Array.getElem?_setIfInBounds]
    split
    · next e =>
      subst e
      have hlt : c < w.heap.size := (Array.getElem?_eq_some_iff.1 h).1
      rw [if_pos hlt]
      exact h.symm
    · rfl
  simp [World.setChan, this]
theorem setChan_other (w : World) (c c' cap : Nat) (buf : Array Value) (closed : Bool) (s r : Nat) (tm : Bool) (h : c ≠ c') : (w.setChan c cap buf closed s r tm).heap[c']? = w.heap[c']? := by
  simp [World.setChan, Array.getElem?_setIfInBounds_ne h]
/-- What was there is as it was, but for blocks q and c. -/
structure Two (w w' : World) (q c : Nat) : Prop where
  os : w'.os = w.os
  tape : w'.tape = w.tape
  output : w'.output = w.output
  size : w.heap.size ≤ w'.heap.size
  block : ∀ k, k < w.heap.size → k ≠ q → k ≠ c → w'.heap[k]? = w.heap[k]?
section
variable {w0 w w1 w2 : World} {q c : Nat}
theorem Two.refl (w : World) (q c : Nat) : Two w w q c := ⟨rfl, rfl, rfl, Nat.le_refl _, fun _ _ _ _ => rfl⟩
theorem Two.trans (h : Two w w1 q c) (k : Two w1 w2 q c) : Two w w2 q c :=
  ⟨k.os.trans h.os, k.tape.trans h.tape, k.output.trans h.output, Nat.le_trans h.size k.size, fun j hj h1 h2 => (k.block j (Nat.lt_of_lt_of_le hj h.size) h1 h2).trans (h.block j hj h1 h2)⟩
theorem Two.setChan (h : Two w w1 q c) (cap : Nat) (buf : Array Value) (cl : Bool) (s r : Nat) (tm : Bool) : Two w (w1.setChan c cap buf cl s r tm) q c :=
  ⟨h.os, h.tape, h.output, by rw [size_setChan]; exact h.size, fun j hj h1 h2 => (setChan_other w1 c j cap buf cl s r tm (fun e => h2 e.symm)).trans (h.block j hj h1 h2)⟩
theorem Two.setCell (h : Two w w1 q c) (i : Nat) (u : Value) : Two w (w1.setCell ⟨q, i, none⟩ u) q c := by
  have ht := turned_setCell w1 q i u
  exact ⟨ht.os.trans h.os, ht.tape.trans h.tape, ht.output.trans h.output, by rw [ht.size]; exact h.size, fun j hj h1 h2 => (ht.block j h1).trans (h.block j hj h1 h2)⟩
theorem Two.of_below (hb : Below w.heap.size w w1) (q c : Nat) : Two w w1 q c := ⟨hb.os, hb.tape, hb.output, hb.size, fun k hk _ _ => hb.block k hk⟩
theorem Two.grown {row : Option Nat} (h : Two w w1 q c) (hg : w1.grownBy w2 row) (hr : ∀ k, row = some k → w.heap.size ≤ k) : Two w w2 q c :=
  ⟨hg.os.trans h.os, hg.tape.trans h.tape, hg.output.trans h.output, Nat.le_trans h.size hg.size, fun k hk h1 h2 => (hg.block k (Nat.lt_of_lt_of_le hk h.size) (fun e => by have := hr k e.symm; omega)).trans (h.block k hk h1 h2)⟩
theorem Two.alloc (h : Two w w1 q c) (o : Obj) : Two w (w1.alloc o) q c := h.trans (Two.of_below ((Below.refl _ _).alloc (Nat.le_refl _) o) q c)
theorem Two.drewN (h : Two w w1 q c) (n : Nat) : Two w (w1.drewN n) q c := ⟨h.os, h.tape, h.output, h.size, h.block⟩
theorem Two.below {B : Nat} (h : Two w w1 q c) (hb : Below B w0 w) (hB : B ≤ w.heap.size) (hq : B ≤ q) (hc : B ≤ c) : Below B w0 w1 :=
  ⟨h.os.trans hb.os, h.tape.trans hb.tape, h.output.trans hb.output, Nat.le_trans hb.size h.size, fun k hk => (h.block k (by omega) (by omega) (by omega)).trans (hb.block k hk)⟩
theorem Two.keep {k : Nat} {o : Obj} (h : Two w w1 q c) (hk : w.heap[k]? = some o) (h1 : k ≠ q) (h2 : k ≠ c) : w1.heap[k]? = some o := (h.block k (heap_lt hk) h1 h2).trans hk
theorem Two.own (h : Two w w1 q c) {base n : Nat} {e : TypeId} {size : Nat} {v : Value} {xs : List Value} (ho : w.ownsRow base e size v n xs) (h1 : ∀ k, v.ownBlock = some k → k ≠ q ∧ k ≠ c) : w1.ownsRow base e size v n xs := by
  obtain ⟨h0, h2⟩ := ho
  refine ⟨h0, ?_⟩
  rcases h2 with h2 | ⟨g, cap, cur, rfl, hg, hh, r⟩
  · exact .inl h2
  · have := h1 g (by simp [Value.ownBlock])
    exact .inr ⟨g, cap, cur, rfl, hg, (h.block g (heap_lt hh) this.1 this.2).trans hh, r⟩
/-- A row made of elements of another type than the queue's. -/
theorem own_apart {base n q c : Nat} {e t : TypeId} {size : Nat} {v : Value} {xs : List Value} {cs : Array Value} (ho : w.ownsRow base e size v n xs) (hq : w.heap[q]? = some (.cells cs t (0, 0))) (hne : e ≠ t) {cap s r : Nat} {buf : Array Value} {cl tm : Bool} (hc : w.heap[c]? = some (.chan cap buf cl s r tm)) :
    ∀ k, v.ownBlock = some k → k ≠ q ∧ k ≠ c := by
  intro k hk
  rcases ho.2 with ⟨rfl, _⟩ | ⟨g, cap', cur, rfl, hg, hh, _⟩
  · simp [Value.ownBlock] at hk
  · obtain rfl : g = k := by simpa [Value.ownBlock] using hk
    refine ⟨fun e' => ?_, fun e' => ?_⟩
    · subst e'
      rw [hq] at hh
      injection hh with hh
      injection hh with _ ht
      exact hne ht.symm
    · subst e'
      rw [hc] at hh
      cases hh
end
end Go.Proofs.Ytglckhjkbgokaaa
