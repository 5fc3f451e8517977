/- CoinTouched in plain terms: whose history a block turns, by the program and by the law. -/
import Derived.Test.YtclkgflficlmiaaDoorTouchP
import Derived.Sort.Walk0
set_option maxRecDepth 100000
set_option linter.unusedVariables false
namespace Go.Proofs.YtclkgflficlmiaaDoor
open Go Go.RowKit
def scrU (us : List Us) : List (List Int) := us.map fun u => u.coin.script
def scrM (ms : List (Pt × Cn)) : List (List Int) := ms.map fun x => x.2.script
def scrO (outs : List TOut) : List (List Int) := outs.map fun o => sumF (bytesOf o.script)
def scrT (ts : List TTx) : List (List Int) := ts.flatMap fun t => scrO t.outs
/-- The law's own marks. -/
def putB (m : List (List Int × Bool)) (l : List (List Int)) : List (List Int × Bool) := l.foldl (fun m x => putV m x true) m
theorem putB_snoc (m : List (List Int × Bool)) (l : List (List Int)) (x : List Int) : putB m (l ++ [x]) = putV (putB m l) x true := by unfold putB; rw [List.foldl_append]; rfl
theorem putB_app (m : List (List Int × Bool)) (l k : List (List Int)) : putB m (l ++ k) = putB (putB m l) k := by unfold putB; rw [List.foldl_append]
theorem putB_look (x : List Int) : ∀ (l : List (List Int)) (m : List (List Int × Bool)), (putB m l).lookup x = if x ∈ l then some true else m.lookup x
  | [], m => by simp [putB]
  | y :: r, m => by
    show (putB (putV m y true) r).lookup x = _
    rw [putB_look x r, lookup_putV]
    by_cases h1 : x ∈ r
    · rw [if_pos h1, if_pos (List.mem_cons_of_mem _ h1)]
    · rw [if_neg h1]
      by_cases h2 : x = y
      · rw [if_pos (by rw [h2]; simp), if_pos (by rw [h2]; exact List.mem_cons_self)]
      · rw [if_neg (by simpa using h2), if_neg (fun h => by
          rcases List.mem_cons.1 h with h | h
          · exact h2 h
          · exact h1 h)]
theorem putB_length : ∀ (l : List (List Int)) (m : List (List Int × Bool)), (putB m l).length ≤ m.length + l.length
  | [], m => Nat.le_refl _
  | y :: r, m => by
    show (putB (putV m y true) r).length ≤ _
    have := putB_length r (putV m y true)
    have := putV_length m y true
    simp only [List.length_cons]
    omega
theorem putB_keys (l : List (List Int)) (x : List Int) : x ∈ keys (putB [] l) ↔ x ∈ l := by
  have h := putB_look x l []
  constructor
  · intro hk
    refine Decidable.byContradiction fun hn => ?_
    rw [if_neg hn] at h
    exact lookup_none_iff.1 h hk
  · intro hm
    rw [if_pos hm] at h
    exact List.mem_map.2 ⟨_, lookup_mem h, rfl⟩
/-- The two are of one length. -/
theorem got_len {l w : List (List Int)} (ha : l.Pairwise (fun a b => a < b)) (hm : ∀ x, x ∈ l ↔ x ∈ w) (hn : (keys (putB [] w)).Nodup) : l.length = (putB [] w).length := by
  have := len_same (asc_nodup ha) hn (fun x => by rw [hm x, putB_keys])
  rw [this]
  unfold keys
  rw [List.length_map]
/-! ### what comes -/
theorem scrM_mkOuts (id : List Int) (h : Int) (pos : Nat) : ∀ (os : List TOut) (i : Nat), scrM (mkOuts id h pos i os) = scrO os
  | [], i => rfl
  | o :: r, i => by
    show _ :: scrM (mkOuts id h pos (i + 1) r) = _
    rw [scrM_mkOuts id h pos r (i + 1)]
    rfl
theorem plTx_scr {h : Int} {m : List (Pt × Cn)} {pos : Nat} {t : TTx} {st st' : PlS} (he : plTx h m pos t st = .ok st') : scrM st'.makes = scrM st.makes ++ scrO t.outs := by
  have key : ∀ sp us f, scrM (plEnd h pos t st sp us f).makes = scrM st.makes ++ scrO t.outs := fun sp us f => by
    unfold plEnd scrM
    rw [List.map_append]
    congr 1
    exact scrM_mkOuts _ _ _ _ _
  unfold plTx at he
  split at he
  · cases he
  · split at he
    · injection he with he
      rw [← he]
      exact key _ _ _
    · split at he
      · cases he
      · split at he
        · cases he
        · split at he
          · cases he
          · injection he with he
            rw [← he]
            exact key _ _ _
theorem plTxs_scr (h : Int) (m : List (Pt × Cn)) : ∀ (r : List TTx) (pos : Nat) (st st' : PlS), plTxs h m pos r st = .ok st' → scrM st'.makes = scrM st.makes ++ scrT r
  | [], pos, st, st', he => by
    injection he with he
    rw [← he]
    simp [scrT]
  | t :: r, pos, st, st', he => by
    rw [plTxs] at he
    split at he
    · cases he
    · rename_i s1 h1
      rw [plTxs_scr h m r _ _ _ he, plTx_scr h1, List.append_assoc]
      rfl
theorem plan_scr {hd : Hd} {ts : List TTx} {h : Int} {m : List (Pt × Cn)} {d : Df} (he : planF hd ts h 0 m = .ok d) : scrM d.makes = scrT ts := by
  unfold planF at he
  split at he
  · cases he
  · split at he
    · cases he
    · split at he
      · rename_i h0
        exact absurd rfl h0
      · split at he
        · cases he
        · rename_i st hs
          injection he with he
          rw [← he]
          have := plTxs_scr h m ts 0 pl0 st hs
          simpa [scrM, pl0] using this
/-- A coin that is used lies in the set with what comes. -/
theorem use_look {m o : List (Pt × Cn)} {ts : List TTx} {d : Df} {lw : LwS} (hn : (keys m).Nodup) (hp : m.Perm o) (h : PlanOk m ts d lw) {u : Us} (hu : u ∈ d.uses) : (putAll o d.makes).lookup u.pt = some u.coin := by
  rw [← putAll_look d.makes m o (lookup_perm hn hp) u.pt, h.put]
  exact h.coin u hu
/-! ### texts -/
theorem map_lt : ∀ (x y : List Int), Bytes x → Bytes y → x < y → (x.map fun n => UInt8.ofNat n.toNat) < (y.map fun n => UInt8.ofNat n.toNat)
  | [], [], _, _, h => absurd h (List.lt_irrefl _)
  | [], b :: y, _, _, _ => by simp
  | a :: x, [], _, _, h => absurd h (by simp)
  | a :: x, b :: y, hx, hy, h => by
    rw [List.cons_lt_cons_iff] at h
    rw [List.map_cons, List.map_cons, List.cons_lt_cons_iff]
    have ha := hx a List.mem_cons_self
    have hb := hy b List.mem_cons_self
    rcases h with h | ⟨h1, h2⟩
    · left
      rw [UInt8.lt_iff_toNat_lt, UInt8.toNat_ofNat', UInt8.toNat_ofNat', Nat.mod_eq_of_lt (by omega), Nat.mod_eq_of_lt (by omega)]
      omega
    · right
      exact ⟨by rw [h1], map_lt x y (fun z hz => hx z (List.mem_cons_of_mem _ hz)) (fun z hz => hy z (List.mem_cons_of_mem _ hz)) h2⟩
theorem text_lt {x y : List Int} (hx : Bytes x) (hy : Bytes y) (h : x < y) : Op.bytesLess (strOfNums x).toList (strOfNums y).toList = true := by
  rw [bytesLess_eq, ByteArray.toList_eq, ByteArray.toList_eq, strOf_toList, strOf_toList]
  exact decide_eq_true (map_lt x y hx hy h)
end Go.Proofs.YtclkgflficlmiaaDoor
