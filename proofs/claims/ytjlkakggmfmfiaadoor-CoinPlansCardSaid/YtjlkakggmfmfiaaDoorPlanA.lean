/- Law 19's find: where a point stands among the rows. | The law's own plan, step by step, in plain terms. | Law 19's own plan: the inputs of a transaction, its outputs. | Law 19's own plan: by lists. -/
import Derived.Test.YtjlkakggmfmfiaaDoorSumA
/-! ## Find19 -/
section
set_option maxRecDepth 100000
set_option linter.unusedVariables false
namespace Go.Proofs.YtjlkakggmfmfiaaDoor
open Go Go.RowKit
theorem info_rw {x : Pt × Cn} (h : MkOk x) : (Tryd.prog.info? 126).map (·.size) = some (mkCells x).length := by rw [mkCells_length h]; kernel_rfl
theorem info_rwA {x : Pt × Cn} (h : MkOk x) : (Tryd.prog.info? 126).map (·.size) = some (mkCells x).toArray.size := by rw [List.size_toArray]; exact info_rw h
theorem zinfo_rw : (Tryd.prog.info? 126).map (fun i => (i.zero, i.size, i.bytes)) = some (some (.agg (mkCells mk0).toArray), 68, 96) := by kernel_rfl
def fndF (p : Pt) : Int → List (Pt × Cn) → Int
  | _, [] => -1
  | i, x :: r => if x.1 == p then i else fndF p (i + 1) r
theorem fndF_step {p : Pt} {l : List (Pt × Cn)} {i : Nat} {x : Pt × Cn} (h : l[i]? = some x) : fndF p (i : Int) (l.drop i) = if x.1 == p then (i : Int) else fndF p ((i + 1 : Nat) : Int) (l.drop (i + 1)) := by
  obtain ⟨hi, he⟩ := List.getElem?_eq_some_iff.1 h
  rw [List.drop_eq_getElem_cons hi, he, fndF]
  rfl
/-- Where it stands, and what is left without it. -/
theorem fndF_law (p : Pt) : ∀ (l : List (Pt × Cn)) (k : Int), (fndF p k l = -1 ∧ l.lookup p = none) ∨ ∃ (i : Nat) (c : Cn), fndF p k l = k + (i : Int) ∧ l[i]? = some (p, c) ∧ l.lookup p = some c ∧ delV l p = l.take i ++ l.drop (i + 1)
  | [], k => Or.inl ⟨rfl, rfl⟩
  | x :: r, k => by
    by_cases h : x.1 = p
    · refine Or.inr ⟨0, x.2, ?_, ?_, ?_, ?_⟩
      · rw [fndF, if_pos (by simpa using h)]
        show k = k + 0
        omega
      · rw [← h]
        rfl
      · obtain ⟨a, b⟩ := x
        simp only at h
        subst h
        simp
      · obtain ⟨a, b⟩ := x
        simp only at h
        subst h
        rw [delV, if_pos (by simp)]
        rfl
    · have hb : (x.1 == p) = false := beq_eq_false_iff_ne.2 h
      have hb' : (p == x.1) = false := beq_eq_false_iff_ne.2 (fun e => h e.symm)
      obtain ⟨a, b⟩ := x
      simp only at hb hb'
      rcases fndF_law p r (k + 1) with ⟨h1, h2⟩ | ⟨i, c, h1, h2, h3, h4⟩
      · refine Or.inl ⟨?_, ?_⟩
        · rw [fndF, if_neg (by simp [hb]), h1]
        · rw [List.lookup_cons, hb']
          exact h2
      · refine Or.inr ⟨i + 1, c, ?_, ?_, ?_, ?_⟩
        · rw [fndF, if_neg (by simp [hb]), h1]
          omega
        · rw [List.getElem?_cons_succ]
          exact h2
        · rw [List.lookup_cons, hb']
          exact h3
        · rw [delV, if_neg (by simp [hb]), h4]
          rfl
set_option maxHeartbeats 16000000 in
theorem find_calls (w : World) (S : Nat → Prop) (A : Option Addr) (n c : Nat) (l : List (Pt × Cn)) (hn : n ≤ 1000000) (hC : mkK.C S w A n l) (p : Pt) (hp : PtOk p) :
    Calls Tryd.prog 79 #[.slice A n c, .agg (ptL p.1 p.2).toArray] w fun e w' => e = .returned (.int .i64 (fndF p 0 l)) ∧ Below w.heap.size w w' := by
  have hUR := Tryd.underlying126
  have hUP := Tryd.underlying77
  have hnI : (n : Int) ≤ 1000000 := by omega
  have HL := Lib.hid hC.len
  have ipp := info_pt hp.1.1 p.2
  have ipA := info_ptA hp.1.1 p.2
  have h1 := heap_alloc_new w (.cells (ptL p.1 p.2).toArray 77)
  have hb0 : Below w.heap.size w (w.alloc (.cells (ptL p.1 p.2).toArray 77)) := (Below.refl _ _).alloc (Nat.le_refl _) _
  go_enter Tryd.func79, Tryd.ntmps79
  go_upto_region 1 with fail
  refine wp_gen (q := fun wi => Below w.heap.size w wi ∧ wi.heap[w.heap.size]? = some (.cells (ptL p.1 p.2).toArray 77)) ⟨hb0, h1⟩ (fun w0 hw => ?_)
  clear h1 hb0
  obtain ⟨hb0, g0⟩ := hw
  have HF0 : Hid (fndF p 0 l = fndF p ((0 : Nat) : Int) (l.drop 0)) := Lib.hid rfl
  go_wp2
  go_loopw [9] (fun v9 wr => ∃ i : Nat, i ≤ n ∧ v9 = .int .i64 i ∧ Hid (fndF p 0 l = fndF p (i : Int) (l.drop i)) ∧ wr.heap[w.heap.size]? = some (.cells (ptL p.1 p.2).toArray 77) ∧ Below w.heap.size w wr) (fun v _ => n - (intOf v).toNat)
  case atStart => exact ⟨0, by omega, rfl, HF0, g0, hb0⟩
  case round =>
    clear HF0 g0 hb0
    obtain ⟨i, hi, rfl, HF, g, hb⟩ := hrel
    by_cases hil : i < n
    · have hil' : (i : Int) < (n : Int) := by omega
      have hii : (0 : Int) ≤ (i : Int) := by omega
      obtain ⟨b3, o3, cs, x, hA, hx, ⟨rfl, hxk⟩, hc⟩ := (RK.C.below hC hb).get i hil
      have hr : wr.rangeAt b3 (o3 + i * 68) (mkCells x) := hc
      have i1 := info_rw hxk
      have i2 := info_rwA hxk
      have ip := info_pt hxk.1.1.1 x.1.2
      have HS : Hid (fndF p 0 l = if x.1 == p then (i : Int) else fndF p ((i + 1 : Nat) : Int) (l.drop (i + 1))) := Lib.hid (by rw [HF.out, fndF_step hx])
      have hNE := eq_pt x.1.1 p.1 x.1.2 p.2 hxk.1.1.1 hp.1.1
      obtain ⟨bq, hbq⟩ : ∃ bq, (x.1.1 == p.1 && x.1.2 == p.2) = bq := ⟨_, rfl⟩
      have HB : Hid ((x.1 == p) = bq) := Lib.hid (by rw [← hbq]; rfl)
      rw [hbq] at hNE
      subst hA
      clear hc hx HF hbq
      go_upto_region 4 with (first
        | ((with_reducible refine wpList_at 13 ?_); refine wpList_load_mid rfl 126 (.tmp 12) rfl b3 (o3 + i * 68) rfl (mkCells x) _ hr hUR rfl i1 ?_)
        | ((with_reducible refine wpList_atS 6 ?_); refine wpList_store_any rfl 126 (.tmp 6) (.tmp 13) rfl wr.heap.size (mkCells x).toArray rfl rfl 126 (mkCells mk0).toArray (heap_alloc_new _ _) i2 (size_mk mk0_ok hxk) (mkCells_all _) ?_; intro wx gx htx))
      have hbx : Below wr.heap.size wr wx := htx.below ((Below.refl _ _).alloc (Nat.le_refl _) _) (Nat.le_refl _)
      have hbB := below_then hb hb.size hbx
      have r1 := range_mk_pt (range_block (xs := mkCells x) gx)
      have gp := heap_below hbx g
      clear gx htx hbx hb hr g
      cases bq with
      | true =>
        have HE : Hid (fndF p 0 l = (i : Int)) := Lib.hid (by rw [HS.out, HB.out, if_pos rfl])
        clear HS HB
        go_wp2_with (first
          | ((with_reducible refine wpList_at 15 ?_); refine wpList_load_mid rfl 77 (.tmp 14) rfl wr.heap.size 0 rfl (ptL x.1.1 x.1.2) _ r1 hUP rfl ip ?_)
          | ((with_reducible refine wpList_at 16 ?_); refine wpList_load_row rfl 77 (.tmp 3) rfl w.heap.size rfl 77 _ _ _ gp hUP rfl ipA ?_))
        go_ret
        exact ⟨by rw [HE.out]; rfl, hbB⟩
      | false =>
        have HE : Hid (fndF p 0 l = fndF p ((i + 1 : Nat) : Int) (l.drop (i + 1))) := Lib.hid (by rw [HS.out, HB.out]; simp)
        clear HS HB
        go_wp2_with (first
          | ((with_reducible refine wpList_at 15 ?_); refine wpList_load_mid rfl 77 (.tmp 14) rfl wr.heap.size 0 rfl (ptL x.1.1 x.1.2) _ r1 hUP rfl ip ?_)
          | ((with_reducible refine wpList_at 16 ?_); refine wpList_load_row rfl 77 (.tmp 3) rfl w.heap.size rfl 77 _ _ _ gp hUP rfl ipA ?_))
        go_roundw
        case rel => exact ⟨i + 1, by omega, by go_num, HE, gp, hbB⟩
        case measure => simp [intOf]; omega
    · have hil' : ¬ (i : Int) < (n : Int) := by omega
      have HE : Hid (fndF p 0 l = -1) := Lib.hid (by rw [HF.out, List.drop_eq_nil_of_le (by rw [HL.out]; omega)]; rfl)
      go_wp2
      go_ret
      exact ⟨by rw [HE.out]; rfl, hb⟩
end Go.Proofs.YtjlkakggmfmfiaaDoor
end

/-! ## Plan19P -/
section
set_option maxRecDepth 100000
set_option linter.unusedVariables false
namespace Go.Proofs.YtjlkakggmfmfiaaDoor
open Go Go.RowKit
theorem lwIns_step {ins : List TIn} {i : Nat} {x : TIn} (hx : ins[i]? = some x) (out gone : List (Pt × Cn)) (s : Int) : lwIns (ins.drop i) out gone s =
    match out.lookup x.pt with
    | none => .error 22
    | some c => if topM < s + c.coins then .error 24 else lwIns (ins.drop (i + 1)) (delV out x.pt) (gone ++ [(x.pt, c)]) (s + c.coins) := by
  obtain ⟨hi, he⟩ := List.getElem?_eq_some_iff.1 hx
  rw [List.drop_eq_getElem_cons hi, he, lwIns]
  try rfl
theorem lwTxs_step {ts : List TTx} {i : Nat} {t : TTx} (hx : ts[i]? = some t) (h : Int) (all : List (Pt × Cn)) (st : LwS) : lwTxs h all i (ts.drop i) st =
    match lwTx h all i t st with
    | .error e => .error e
    | .ok st' => lwTxs h all (i + 1) (ts.drop (i + 1)) st' := by
  obtain ⟨hi, he⟩ := List.getElem?_eq_some_iff.1 hx
  rw [List.drop_eq_getElem_cons hi, he, lwTxs]
  try rfl
/-- Whether a row of this number lies from here on. -/
def idIn (all : List (Pt × Cn)) (id : List Int) : Bool := all.any (fun p => p.1.1 == id)
theorem idIn_step {all : List (Pt × Cn)} {i : Nat} {x : Pt × Cn} (hx : all[i]? = some x) (id : List Int) : idIn (all.drop i) id = (x.1.1 == id || idIn (all.drop (i + 1)) id) := by
  obtain ⟨hi, he⟩ := List.getElem?_eq_some_iff.1 hx
  rw [List.drop_eq_getElem_cons hi, he]
  rfl
theorem lwTx_twice {h : Int} {all : List (Pt × Cn)} {pos : Nat} {t : TTx} {st : LwS} (hi : idIn all (idF t) = true) : lwTx h all pos t st = .error 23 := by
  unfold lwTx
  exact if_pos hi
theorem lwTx_first {h : Int} {all : List (Pt × Cn)} {t : TTx} {st : LwS} (hi : idIn all (idF t) = false) : lwTx h all 0 t st = .ok ⟨st.out ++ mkOuts (idF t) h 0 0 t.outs, st.gone, st.fees⟩ := by
  unfold lwTx
  unfold idIn at hi
  rw [if_neg (by rw [hi]; decide), if_pos rfl]
theorem lwTx_next {h : Int} {all : List (Pt × Cn)} {pos : Nat} {t : TTx} {st : LwS} (hi : idIn all (idF t) = false) (hp : pos ≠ 0) : lwTx h all pos t st = match lwIns t.ins st.out st.gone 0 with
    | .error e => .error e
    | .ok (out, gone, s) => if s < outSum t then .error 24 else if topM < st.fees + (s - outSum t) then .error 24 else .ok ⟨out ++ mkOuts (idF t) h pos 0 t.outs, gone, st.fees + (s - outSum t)⟩ := by
  unfold lwTx
  unfold idIn at hi
  rw [if_neg (by rw [hi]; decide), if_neg hp]
  rfl
/-- The outputs so far. -/
theorem mkOuts_step (id : List Int) (h : Int) (pos : Nat) : ∀ (os : List TOut) (k i : Nat) (o : TOut), os[i]? = some o → mkOuts id h pos k (os.take (i + 1)) = mkOuts id h pos k (os.take i) ++ [((id, ((k + i : Nat) : Int)), mkCn o h pos)]
  | [], k, i, o, h1 => by simp at h1
  | x :: r, k, 0, o, h1 => by
    obtain rfl : x = o := by simpa using h1
    rfl
  | x :: r, k, i + 1, o, h1 => by
    rw [List.getElem?_cons_succ] at h1
    rw [List.take_succ_cons, List.take_succ_cons, mkOuts, mkOuts, mkOuts_step id h pos r (k + 1) i o h1, show k + 1 + i = k + (i + 1) by omega]
    rfl
end Go.Proofs.YtjlkakggmfmfiaaDoor
end

/-! ## Plan19B -/
section
set_option maxRecDepth 100000
set_option linter.unusedVariables false
namespace Go.Proofs.YtjlkakggmfmfiaaDoor
open Go Go.RowKit
/-- How far the law's plan is: how many rows are gone, how many stand. -/
structure LwOk (g o : Nat) (st : LwS) : Prop where
  out : st.out.length ≤ o
  gone : st.gone.length ≤ g
  ro : ∀ x ∈ st.out, 0 ≤ x.2.coins ∧ x.2.coins ≤ topM
  rg : ∀ x ∈ st.gone, 0 ≤ x.2.coins ∧ x.2.coins ≤ topM
  f0 : 0 ≤ st.fees
  f1 : st.fees ≤ topM
theorem LwOk.spend {g o : Nat} {out gone : List (Pt × Cn)} {f : Int} (h : LwOk g o ⟨out, gone, f⟩) {p : Pt} {c : Cn} (hl : out.lookup p = some c) : LwOk (g + 1) o ⟨delV out p, gone ++ [(p, c)], f⟩ :=
  ⟨Nat.le_trans (delV_length out p) h.out, by have := h.gone; simp only [List.length_append, List.length_cons, List.length_nil] at this ⊢; omega, fun x hx => h.ro x (mem_delV hx), fun x hx => by
    rcases List.mem_append.1 hx with hx | hx
    · exact h.rg x hx
    · rw [List.mem_singleton.1 hx]
      exact h.ro _ (lookup_mem hl), h.f0, h.f1⟩
def lwInK (k : Nat) (ins : List TIn) (out gone : List (Pt × Cn)) (s : Int) : Except Int (List (Pt × Cn) × List (Pt × Cn) × Int) := if k = 0 then .ok (out, gone, s) else lwIns ins out gone s
/-- A row of the call's own stands while another block grows. -/
theorem own_kept {α : Type} {d : RK α} {w w' : World} {b n : Nat} {e : TypeId} {v : Value} {xs : List α} {row : Option Nat} (h : d.Own (fun _ => False) w b e v n xs) (hg : w.grownBy w' row) (hne : ∀ q, v.ownBlock = some q → row ≠ some q) : d.Own (fun _ => False) w' b e v n xs := by
  obtain ⟨h1, cells, h2, h3⟩ := h
  refine ⟨h1, cells, World.ownsRow.kept h2 hg ?_, fun i x hx => ?_⟩
  · cases hq : v.ownBlock with
    | none => exact Or.inl rfl
    | some q => exact Or.inr fun e => hne q hq e.symm
  · obtain ⟨cs, hK, hcs⟩ := h3 i x hx
    exact ⟨cs, d.move (fun k hk _ => hk.elim) hK, hcs⟩
/-- The law's plan in memory: what stands, what is gone, and three blocks of its own. -/
structure LwM (w0 : World) (base gB gT gI : Nat) (cB cT cI : Array Value) (out gone : List (Pt × Cn)) (Ao : Option Addr) (no co : Nat) (Ag : Option Addr) (ng cg : Nat) (wr : World) : Prop where
  rOut : mkK.Own (fun _ => False) wr base 126 (.slice Ao no co) no out
  rGone : mkK.Own (fun _ => False) wr base 126 (.slice Ag ng cg) ng gone
  ap : ∀ q, (Value.slice Ao no co).ownBlock = some q → (Value.slice Ag ng cg).ownBlock ≠ some q
  blk : wr.heap[gB]? = some (.cells cB 64)
  two : TwoB gT gI cT cI wr
  bel : Below w0.heap.size w0 wr
  le : base ≤ wr.heap.size
section
variable {w0 : World} {base gB gT gI : Nat} {cB cT cI : Array Value} {out gone : List (Pt × Cn)} {Ao Ag : Option Addr} {no co ng cg : Nat} {wr w' : World}
theorem LwM.below (h : LwM w0 base gB gT gI cB cT cI out gone Ao no co Ag ng cg wr) (hb : Below wr.heap.size wr w') : LwM w0 base gB gT gI cB cT cI out gone Ao no co Ag ng cg w' :=
  ⟨h.rOut.below hb, h.rGone.below hb, h.ap, heap_below hb h.blk, h.two.below hb, below_then h.bel h.bel.size hb, Nat.le_trans h.le hb.size⟩
theorem own_blk_neK {α : Type} {d : RK α} {S : Nat → Prop} {w : World} {b n g : Nat} {e t : TypeId} {v : Value} {xs : List α} {cs : Array Value} {fz : Nat × Nat} (h : d.Own S w b e v n xs) (hg : w.heap[g]? = some (.cells cs t fz)) (hne : e ≠ t) : some g ≠ v.ownBlock := by
  obtain ⟨_, cells, h2, _⟩ := h
  exact own_blk_ne h2 hg hne
/-- A row is gone. -/
theorem LwM.goes (h : LwM w0 base gB gT gI cB cT cI out gone Ao no co Ag ng cg wr) (hw : w0.heap.size ≤ base) {ga : List (Pt × Cn)} {n : Nat} {A' : Option Addr} {c' : Nat} (ho : mkK.Own (fun _ => False) w' base 126 (.slice A' n c') n ga) (hg : wr.grownBy w' (Value.slice Ag ng cg).ownBlock)
    (hx : (Value.slice A' n c').ownBlock = (Value.slice Ag ng cg).ownBlock ∨ (Value.slice A' n c').ownBlock = some wr.heap.size) : LwM w0 base gB gT gI cB cT cI out ga Ao no co A' n c' w' := by
  have hlo : ∀ q, (Value.slice Ag ng cg).ownBlock = some q → w0.heap.size ≤ q := fun q e => Nat.le_trans hw (RK.Own.lt h.rGone q e).1
  refine ⟨own_kept h.rOut hg h.ap, ho, fun q e f => ?_, heap_grown hg h.blk (own_blk_neK h.rGone h.blk (by decide)), h.two.grown hg (own_blk_neK h.rGone h.two.1 (by decide)) (own_blk_neK h.rGone h.two.2 (by decide)), h.bel.grown hg h.bel.size hlo, Nat.le_trans h.le hg.size⟩
  rcases hx with hx | hx
  · exact h.ap q e (hx.symm.trans f)
  · have h1 := (RK.Own.lt h.rOut q e).2
    have h2 : some wr.heap.size = some q := hx.symm.trans f
    obtain rfl := Option.some.inj h2
    omega
/-- A row comes. -/
theorem LwM.comes (h : LwM w0 base gB gT gI cB cT cI out gone Ao no co Ag ng cg wr) (hw : w0.heap.size ≤ base) {oa : List (Pt × Cn)} {n : Nat} {A' : Option Addr} {c' : Nat} (ho : mkK.Own (fun _ => False) w' base 126 (.slice A' n c') n oa) (hg : wr.grownBy w' (Value.slice Ao no co).ownBlock)
    (hx : (Value.slice A' n c').ownBlock = (Value.slice Ao no co).ownBlock ∨ (Value.slice A' n c').ownBlock = some wr.heap.size) : LwM w0 base gB gT gI cB cT cI oa gone A' n c' Ag ng cg w' := by
  have hlo : ∀ q, (Value.slice Ao no co).ownBlock = some q → w0.heap.size ≤ q := fun q e => Nat.le_trans hw (RK.Own.lt h.rOut q e).1
  refine ⟨ho, own_kept h.rGone hg (fun q e f => h.ap q f e), fun q e f => ?_, heap_grown hg h.blk (own_blk_neK h.rOut h.blk (by decide)), h.two.grown hg (own_blk_neK h.rOut h.two.1 (by decide)) (own_blk_neK h.rOut h.two.2 (by decide)), h.bel.grown hg h.bel.size hlo, Nat.le_trans h.le hg.size⟩
  rcases hx with hx | hx
  · exact h.ap q (hx.symm.trans e) f
  · have h1 := (RK.Own.lt h.rGone q f).2
    have h2 : some wr.heap.size = some q := hx.symm.trans e
    obtain rfl := Option.some.inj h2
    omega
/-- The rows that stand are made anew, in a block of their own. -/
theorem LwM.anew (h : LwM w0 base gB gT gI cB cT cI out gone Ao no co Ag ng cg wr) (hb : Below wr.heap.size wr w') {oa : List (Pt × Cn)} {n : Nat} {A' : Option Addr} {c' : Nat} (ho : mkK.Own (fun _ => False) w' wr.heap.size 126 (.slice A' n c') n oa) : LwM w0 base gB gT gI cB cT cI oa gone A' n c' Ag ng cg w' := by
  refine ⟨ho.base_ h.le, h.rGone.below hb, fun q e f => ?_, heap_below hb h.blk, h.two.below hb, below_then h.bel h.bel.size hb, Nat.le_trans h.le hb.size⟩
  have h1 := (RK.Own.lt ho q e).1
  have h2 := (RK.Own.lt h.rGone q f).2
  omega
end
noncomputable def lwB4 : Code := ((Tryd.f59.body.bind (findBk 4)).getD .skip)
set_option maxHeartbeats 16000000 in
theorem lw_ins {u0 u1 u3 u4 u5 u6 u7 u8 u9 u10 u13 u15 u16 u17 u18 u20 u21 u22 u23 u24 u25 u26 u27 u28 u29 u30 u31 u32 u33 u34 u35 u36 u37 u38 u39 u40 u41 u42 u43 u44 u45 u46 u47 u48 u49 u50 u51 u52 u53 u54 u55 u56 u57 u58 u59 u60 u64 u65 u66 u67 u68 u69 u70 u71 u72 u73 u74 u75 u76 u77 u78 u79 u80 u81 u82 u83 u84 u85 u86 u87 u88 u89 u90 u91 u92 u93 u94 u95 u96 u97 u98 u99 u100 u101 u102 u103 u104 u105 u106 u107 u108 u109 u110 u111 u112 u113 u114 u115 u116 u117 u118 u119 u120 u121 u122 u123 u124 u125 u126 u127 u128 u129 u130 u131 u132 u133 u134 u135 u136 u137 u138 u139 u140 u141 u142 u143 u144 u145 u146 u147 u148 u149 u150 u151 u152 : Value} (w0 wr0 : World) (base gB gT gI k na ca : Nat) (cB cT cI : Array Value) (Aa : Option Addr) (hw : w0.heap.size ≤ base) (S : Nat → Prop) (A1 : Option Addr) (n1 c1 : Nat) (ins : List TIn) (hn : n1 ≤ 6) (hI : inK.C S w0 A1 n1 ins)
    (out0 gone0 : List (Pt × Cn)) (Ao Ag : Option Addr) (no co ng cg : Nat) (f : Int) (g o : Nat) (hg : g ≤ 1000) (ho : o ≤ 2000) (hst : LwOk g o ⟨out0, gone0, f⟩) (hM0 : LwM w0 base gB gT gI cB cT cI out0 gone0 Ao no co Ag ng cg wr0) (Q0 : Exit → Act → World → Prop)
    (hexit : ∀ x6 x7 x8 x9 x21 x22 x63 x64 x65 x66 x67 x68 x69 x70 x71 x72 x73 x74 x75 x76 x77 x78 x79 x80 x81 x82 x83 x84 x85 x86 x87 x88 x89 x90 x91 x92 x93 x94 x95 x96 x97 x98 x99 x100 x101 x102 x103 x104 out2 gone2 s Ao2 no2 co2 Ag2 ng2 cg2 w', lwInK k ins out0 gone0 0 = .ok (out2, gone2, s) → LwM w0 base gB gT gI cB cT cI out2 gone2 Ao2 no2 co2 Ag2 ng2 cg2 w' → LwOk (g + n1) o ⟨out2, gone2, f⟩ → 0 ≤ s → s ≤ topM → Q0 .normal ⟨#[u0, u1, .slice Aa na ca, u3, u4, u5, x6, x7, x8, x9, u10, .slice Ao2 no2 co2, .slice Ag2 ng2 cg2, u13, .int .i64 (k : Int), u15, u16, u17, u18, .int .i64 s, u20, x21, x22, u23, u24, u25, u26, u27, u28, u29, u30, u31, u32, u33, u34, u35, u36, u37, u38, u39, u40, u41, u42, u43, u44, u45, u46, u47, u48, u49, u50, u51, u52, u53, u54, u55, u56, u57, u58, u59, u60, .slice A1 n1 c1, .int .i64 (n1 : Int), x63, x64, x65, x66, x67, x68, x69, x70, x71, x72, x73, x74, x75, x76, x77, x78, x79, x80, x81, x82, x83, x84, x85, x86, x87, x88, x89, x90, x91, x92, x93, x94, x95, x96, x97, x98, x99, x100, x101, x102, x103, x104, u105, u106, u107, u108, u109, u110, u111, u112, u113, u114, u115, u116, u117, u118, u119, u120, u121, u122, u123, u124, u125, u126, u127, u128, u129, u130, u131, u132, u133, u134, u135, u136, u137, u138, u139, u140, u141, u142, u143, u144, u145, u146, u147, u148, u149, u150, u151, u152], []⟩ w')
    (herr : ∀ x11 x12 x19 x21 x22 x63 x64 x65 x66 x67 x68 x69 x70 x71 x72 x73 x74 x75 x76 x77 x78 x79 x80 x81 x82 x83 x84 x85 x86 x87 x88 x89 x90 x91 x92 x93 x94 x95 x96 x97 x98 x99 x100 x101 x102 x103 x104 e w', lwInK k ins out0 gone0 0 = .error e → Below w0.heap.size w0 w' → Q0 .ret ⟨#[u0, u1, .slice Aa na ca, u3, u4, u5, .slice Aa na ca, .slice none 0 0, .int .i64 0, .int .i64 e, u10, x11, x12, u13, .int .i64 (k : Int), u15, u16, u17, u18, x19, u20, x21, x22, u23, u24, u25, u26, u27, u28, u29, u30, u31, u32, u33, u34, u35, u36, u37, u38, u39, u40, u41, u42, u43, u44, u45, u46, u47, u48, u49, u50, u51, u52, u53, u54, u55, u56, u57, u58, u59, u60, .slice A1 n1 c1, .int .i64 (n1 : Int), x63, x64, x65, x66, x67, x68, x69, x70, x71, x72, x73, x74, x75, x76, x77, x78, x79, x80, x81, x82, x83, x84, x85, x86, x87, x88, x89, x90, x91, x92, x93, x94, x95, x96, x97, x98, x99, x100, x101, x102, x103, x104, u105, u106, u107, u108, u109, u110, u111, u112, u113, u114, u115, u116, u117, u118, u119, u120, u121, u122, u123, u124, u125, u126, u127, u128, u129, u130, u131, u132, u133, u134, u135, u136, u137, u138, u139, u140, u141, u142, u143, u144, u145, u146, u147, u148, u149, u150, u151, u152], []⟩ w') :
    Code.wp Tryd.prog lwB4 Q0 ⟨#[u0, u1, .slice Aa na ca, u3, u4, u5, u6, u7, u8, u9, u10, .slice Ao no co, .slice Ag ng cg, u13, .int .i64 (k : Int), u15, u16, u17, u18, .int .i64 0, u20, u21, u22, u23, u24, u25, u26, u27, u28, u29, u30, u31, u32, u33, u34, u35, u36, u37, u38, u39, u40, u41, u42, u43, u44, u45, u46, u47, u48, u49, u50, u51, u52, u53, u54, u55, u56, u57, u58, u59, u60, .slice A1 n1 c1, .int .i64 (n1 : Int), .int .i64 0, u64, u65, u66, u67, u68, u69, u70, u71, u72, u73, u74, u75, u76, u77, u78, u79, u80, u81, u82, u83, u84, u85, u86, u87, u88, u89, u90, u91, u92, u93, u94, u95, u96, u97, u98, u99, u100, u101, u102, u103, u104, u105, u106, u107, u108, u109, u110, u111, u112, u113, u114, u115, u116, u117, u118, u119, u120, u121, u122, u123, u124, u125, u126, u127, u128, u129, u130, u131, u132, u133, u134, u135, u136, u137, u138, u139, u140, u141, u142, u143, u144, u145, u146, u147, u148, u149, u150, u151, u152], []⟩ wr0 := by
  have HE := Lib.hid hexit
  have HR := Lib.hid herr
  have HST := Lib.hid hst
  have hUI := Tryd.underlying80
  have hUP := Tryd.underlying77
  have hUR := Tryd.underlying126
  have hn1I : (n1 : Int) ≤ 6 := by omega
  have HLN := Lib.hid hI.len
  clear hexit herr hst
  conv => arg 2; whnf
  by_cases hk0 : k = 0
  · have hkb : ((k : Int) == 0) = true := beq_iff_eq.2 (by omega)
    have HP : Hid (lwInK k ins out0 gone0 0 = .ok (out0, gone0, 0)) := Lib.hid (by unfold lwInK; rw [if_pos hk0])
    have HO2 : Hid (LwOk (g + n1) o ⟨out0, gone0, f⟩) := Lib.hid (by have h := HST.out; exact ⟨h.out, by have := h.gone; simp only at *; omega, h.ro, h.rg, h.f0, h.f1⟩)
    have HK := Lib.hid hk0
    clear hk0
    go_wp2
    go_loopw [11, 12, 19, 63] (fun v11 v12 v19 v63 wr => v11 = .slice Ao no co ∧ v12 = .slice Ag ng cg ∧ v19 = .int .i64 0 ∧ v63 = .int .i64 0 ∧ LwM w0 base gB gT gI cB cT cI out0 gone0 Ao no co Ag ng cg wr ) (fun _ _ _ v _ => 0)
    case atStart => exact ⟨rfl, rfl, rfl, rfl, hM0⟩
    case round =>
      clear hM0
      obtain ⟨rfl, rfl, rfl, rfl, hM⟩ := hrel
      have hb := hM.bel
      by_cases hlt : 0 < n1
      · have hlt' : (0 : Int) < (n1 : Int) := by omega
        obtain ⟨b, o2, cs, x, hA, hx, hKx, hcx⟩ := (RK.C.below hI hb).get 0 hlt
        subst hA
        obtain ⟨Aw, nw, cw, rfl, hxo, _, _, _⟩ := hKx
        have hidl := hxo.idl
        have i1 := info_in x hidl (.slice Aw nw cw)
        have hrg : wr.rangeAt b (o2 + 0 * 36) (inCells x (.slice Aw nw cw)) := hcx
        rw [Nat.zero_mul, Nat.add_zero] at hrg
        clear hcx hx
        go_upto_region 21 with (first
          | ((with_reducible refine wpList_at 66 ?_); refine wpList_load_mid rfl 80 (.tmp 65) rfl b o2 rfl (inCells x (.slice Aw nw cw)) _ hrg hUI rfl i1 ?_)
          | ((with_reducible refine wpList_atS 21 ?_); refine wpList_store_any rfl 80 (.tmp 21) (.tmp 66) rfl wr.heap.size (inCells x (.slice Aw nw cw)).toArray rfl rfl 80 (inCells in0 (.slice none 0 0)).toArray (heap_alloc_new _ _) (info_inA x hidl _) (in_sizes x hidl _) (in_one x _ rfl) ?_; intro w2 g2 ht2))
        have hb2 : Below wr.heap.size wr w2 := ht2.below ((Below.refl _ _).alloc (Nat.le_refl _) _) (Nat.le_refl _)
        have hM2 := hM.below hb2
        clear hM hrg g2 ht2 hb2 hb
        go_wp2
        exact HE.out _ _ _ _ _ _ _ _ _ _ _ _ _ _ _ _ _ _ _ _ _ _ _ _ _ _ _ _ _ _ _ _ _ _ _ _ _ _ _ _ _ _ _ _ _ _ _ _ _ _ _ _ _ _ _ _ _ _ HP.out hM2 HO2.out (by decide) (by decide)
      · have hlt' : ¬ (0 : Int) < (n1 : Int) := by omega
        go_wp2
        exact HE.out _ _ _ _ _ _ _ _ _ _ _ _ _ _ _ _ _ _ _ _ _ _ _ _ _ _ _ _ _ _ _ _ _ _ _ _ _ _ _ _ _ _ _ _ _ _ _ _ _ _ _ _ _ _ _ _ _ _ HP.out hM HO2.out (by decide) (by decide)
  · have hkb : ((k : Int) == 0) = false := beq_eq_false_iff_ne.2 (by omega)
    have HP : Hid (lwInK k ins out0 gone0 0 = lwIns ins out0 gone0 0) := Lib.hid (by unfold lwInK; rw [if_neg hk0])
    have HK := Lib.hid hk0
    clear hk0
    go_wp2
    go_loopw [11, 12, 19, 63] (fun v11 v12 v19 v63 wr => ∃ (i : Nat) (out gone : List (Pt × Cn)) (s : Int) (Ao : Option Addr) (no co : Nat) (Ag : Option Addr) (ng cg : Nat), i ≤ n1 ∧ v63 = .int .i64 i ∧ v11 = .slice Ao no co ∧ v12 = .slice Ag ng cg ∧ v19 = .int .i64 s ∧ 0 ≤ s ∧ s ≤ 2100000000000000 ∧ Hid (lwInK k ins out0 gone0 0 = lwIns (ins.drop i) out gone s) ∧ Hid (LwOk (g + i) o ⟨out, gone, f⟩) ∧ LwM w0 base gB gT gI cB cT cI out gone Ao no co Ag ng cg wr ) (fun _ _ _ v _ => n1 - (intOf v).toNat)
    case atStart => exact ⟨0, out0, gone0, 0, Ao, no, co, Ag, ng, cg, by omega, rfl, rfl, rfl, rfl, by decide, by decide, Lib.hid (by rw [HP.out, List.drop_zero]), HST, hM0⟩
    case round =>
      clear hM0 HP HST
      obtain ⟨i, out, gone, s, Ao, no, co, Ag, ng, cg, hi, rfl, rfl, rfl, rfl, hs0, hs1, HP, HOK, hM⟩ := hrel
      have hb := hM.bel
      by_cases hlt : i < n1
      · have hlt' : (i : Int) < (n1 : Int) := by omega
        have hii : (0 : Int) ≤ (i : Int) := by omega
        obtain ⟨b, o2, cs, x, hA, hx, hKx, hcx⟩ := (RK.C.below hI hb).get i hlt
        subst hA
        obtain ⟨Aw, nw, cw, rfl, hxo, _, _, _⟩ := hKx
        have hidl := hxo.idl
        have hpt : PtOk (x.id, x.out) := ⟨⟨hxo.idl, hxo.idb⟩, hxo.o0, hxo.o1⟩
        have i1 := info_in x hidl (.slice Aw nw cw)
        have i2 := info_pt hidl x.out
        have hrg : wr.rangeAt b (o2 + i * 36) (inCells x (.slice Aw nw cw)) := hcx
        have HPS := Lib.hid (lwIns_step hx out gone s)
        clear hcx hx
        go_upto_region 21 with (first
          | ((with_reducible refine wpList_at 66 ?_); refine wpList_load_mid rfl 80 (.tmp 65) rfl b (o2 + i * 36) rfl (inCells x (.slice Aw nw cw)) _ hrg hUI rfl i1 ?_)
          | ((with_reducible refine wpList_atS 21 ?_); refine wpList_store_any rfl 80 (.tmp 21) (.tmp 66) rfl wr.heap.size (inCells x (.slice Aw nw cw)).toArray rfl rfl 80 (inCells in0 (.slice none 0 0)).toArray (heap_alloc_new _ _) (info_inA x hidl _) (in_sizes x hidl _) (in_one x _ rfl) ?_; intro w2 g2 ht2))
        have hb2 : Below wr.heap.size wr w2 := ht2.below ((Below.refl _ _).alloc (Nat.le_refl _) _) (Nat.le_refl _)
        have hM2 := hM.below hb2
        have r2 := range_in_pt (range_block (xs := inCells x (.slice Aw nw cw)) g2)
        clear hM hb hrg g2 ht2 hb2
        have HNO := Lib.hid (RK.Own.len hM2.rOut)
        have HNG := Lib.hid (RK.Own.len hM2.rGone)
        have hCo := RK.Own.C_ (S' := fun _ => True) hM2.rOut (fun _ h => h.elim) (fun _ _ => trivial)
        have hol : no ≤ 2000 := by have := HOK.out.out; have := HNO.out; simp only at *; omega
        have hgl : ng ≤ 1006 := by have := HOK.out.gone; have := HNG.out; simp only at *; omega
        have hFi : Calls Tryd.prog 79 #[.slice Ao no co, .agg (ptL x.id x.out).toArray] w2 fun e w' => e = .returned (.int .i64 (fndF (x.id, x.out) 0 out)) ∧ Below w2.heap.size w2 w' := find_calls w2 (fun _ => True) Ao no co out (by omega) hCo (x.id, x.out) hpt
        obtain ⟨fi, hfi⟩ : ∃ fi, fndF (x.id, x.out) 0 out = fi := ⟨_, rfl⟩
        have hFL := fndF_law (x.id, x.out) out 0
        rw [hfi] at hFi hFL
        have HFI := Lib.hid hfi
        have HFL := Lib.hid hFL
        clear hfi hFL
        go_wp2_with (first
          | ((with_reducible refine wpList_at 71 ?_); refine wpList_load_mid rfl 77 (.tmp 70) rfl wr.heap.size 0 rfl (ptL x.id x.out) _ r2 hUP rfl i2 ?_))
        refine hFi.mono ?_
        clear hFi hCo
        rintro e w3 ⟨rfl, hb3⟩
        have hM3 := hM2.below hb3
        have hBE := hM3.bel
        clear hM2 hb3 r2
        rcases HFL.out with ⟨hf1, hf2⟩ | ⟨j, c, hf1, hf2, hf3, hf4⟩
        · subst hf1
          have HF : Hid (lwInK k ins out0 gone0 0 = .error 22) := Lib.hid (by
            rw [HP.out, HPS.out]
            have : out.lookup x.pt = none := hf2
            rw [this])
          clear hf2 HFL HFI
          go_wp2
          exact HR.out _ _ _ _ _ _ _ _ _ _ _ _ _ _ _ _ _ _ _ _ _ _ _ _ _ _ _ _ _ _ _ _ _ _ _ _ _ _ _ _ _ _ _ _ _ _ _ _ _ HF.out hBE
        · obtain rfl : fi = (j : Int) := by omega
          have hjl : j < no := by rw [← HNO.out]; exact (List.getElem?_eq_some_iff.1 hf2).1
          have hjI : (j : Int) < (no : Int) := by omega
          have hj0 : ¬ (j : Int) < 0 := by omega
          have hj00 : (0 : Int) ≤ (j : Int) := by omega
          have hjd : decide ((j : Int) < 0) = false := decide_eq_false hj0
          have hcl := HOK.out.ro _ (List.mem_of_getElem? hf2)
          have HOK2 := Lib.hid (HOK.out.spend hf3)
          have HD : Hid (delV out (x.id, x.out) = out.take j ++ out.drop (j + 1)) := Lib.hid hf4
          have HP2 : Hid (lwInK k ins out0 gone0 0 = if topM < s + c.coins then .error 24 else lwIns (ins.drop (i + 1)) (delV out (x.id, x.out)) (gone ++ [((x.id, x.out), c)]) (s + c.coins)) := Lib.hid (by
            rw [HP.out, HPS.out]
            have : out.lookup x.pt = some c := hf3
            rw [this]
            rfl)
          have hCo := RK.Own.C_ (S' := fun _ => True) hM3.rOut (fun _ h => h.elim) (fun _ _ => trivial)
          obtain ⟨b3, o3, cs, y, hA, hy, ⟨rfl, hyk⟩, hc⟩ := hCo.get j hjl
          obtain rfl : ((x.id, x.out), c) = y := by rw [hf2] at hy; exact Option.some.inj hy
          have hr : w3.rangeAt b3 (o3 + j * 68) (mkCells ((x.id, x.out), c)) := hc
          have tq : w3.cell? ⟨b3, o3 + j * 68 + 33, none⟩ = some (.int .i64 c.coins) := hr 33 _ (mkCells_coins hyk)
          have i3 := info_rw hyk
          subst hA
          have hcap := RK.Own.le_ hM3.rOut
          obtain ⟨zc, hzc⟩ : ∃ z, c.coins = z := ⟨_, rfl⟩
          have hz0 : 0 ≤ zc := by rw [← hzc]; exact hcl.1
          have hz1 : zc ≤ 2100000000000000 := by rw [← hzc]; exact hcl.2
          rw [hzc] at tq HP2
          have HZC := Lib.hid hzc
          clear hj0 hf1 hf2 hf3 hf4 HFL HFI hc hy hcl HP HPS HOK hBE hzc
          have hq1 := RK.Own.alloc hM3.rGone (.cells (mkCells ((x.id, x.out), c)).toArray 126)
          have hq2 := C1 (d := mkK) (x := ((x.id, x.out), c)) (heap_alloc_new w3 (.cells (mkCells ((x.id, x.out), c)).toArray 126)) ⟨rfl, hyk⟩
          have hq3 : base ≤ (w3.alloc (.cells (mkCells ((x.id, x.out), c)).toArray 126)).heap.size := by have := hM3.le; simp; omega
          have hq4 : (ng + 1) * 96 ≤ 140737488355328 := by omega
          have hq5 : ng + 1 ≤ maxLen := by unfold maxLen; omega
          have hMa := hM3.below ((Below.refl _ _).alloc (Nat.le_refl _) (.cells (mkCells ((x.id, x.out), c)).toArray 126))
          have hbase := hM3.le
          go_upto_region 27 with (first
            | ((with_reducible refine wpList_at 88 ?_); refine wpList_load_mid rfl 126 (.tmp 87) rfl b3 (o3 + j * 68) rfl (mkCells ((x.id, x.out), c)) _ hr hUR rfl i3 ?_)
            | ((with_reducible refine wpList_at 89 ?_); refine wpList_build1 rfl 116 126 _ rfl Tryd.underlying116 _ 68 96 zinfo_rw (by decide) (by decide) (mkCells ((x.id, x.out), c)) (mkCells_length hyk) rfl rfl ?_)
            | ((with_reducible refine wpList_at 90 ?_); refine RK.wpList_appK mkK _ rfl (.tmp 84) (.tmp 89) 116 rfl (fun _ => False) base 126 _ 96 Tryd.underlying116 zinfo_rw rfl (by decide) (.slice Ag ng cg) ng gone rfl hq1 (fun _ h => h.elim) _ 1 1 [((x.id, x.out), c)] rfl (fun _ => True) hq2 (fun _ _ h => h) (ng + 1) _ rfl rfl hq5 hq4 hq3 ?_
               intro A6 c6 w6 hO6 hG6 hx6
               have hM6 := hMa.goes hw hO6 hG6 hx6
               clear hq1 hq2 hq3 hq4 hq5 hO6 hG6 hx6 hMa hM3 hr tq
               refine wp_stopper ?_))
          refine Lib.hid ?_
          go_upto_region 27 with fail
          have hOw := hM6.rOut
          have hCq := RK.Own.C_ (S' := fun _ => True) hOw (fun _ h => h.elim) (fun _ _ => trivial)
          have hTk := RK.C.take_ hCq j (by omega)
          have hDr0 := RK.C.drop_ hCq (j + 1) co (by omega) hcap.1
          obtain ⟨j1, hj1⟩ : ∃ j1, j + 1 = j1 := ⟨_, rfl⟩
          rw [hj1] at hDr0 HD
          have hDr : mkK.C (fun _ => True) w6 (if co = j1 then some ⟨b3, o3, none⟩ else some ⟨b3, o3 + j1 * 68, none⟩) (no - j1) (out.drop j1) := by rw [show (some ⟨b3, o3 + j1 * 68, none⟩ : Option Addr) = (some ⟨b3, o3, none⟩ : Option Addr).map (·.add (j1 * mkK.sz)) from (by rw [Option.map_some, add_plain']; rfl)]; exact hDr0
          obtain ⟨Ad, hAd⟩ : ∃ Ad, (if co = j1 then some ⟨b3, o3, none⟩ else some ⟨b3, o3 + j1 * 68, none⟩ : Option Addr) = Ad := ⟨_, rfl⟩
          rw [hAd] at hDr
          have hwj : IntKind.i64.wrap ((j : Int) + 1) = (j1 : Int) := by rw [IntWalk.i64_in _ (by omega)]; omega
          have HJ1 := Lib.hid hj1
          have hjc : (j : Int) ≤ (co : Int) := by omega
          have hjn : (j1 : Int) ≤ (no : Int) := by omega
          have hj10 : (0 : Int) ≤ (j1 : Int) := by omega
          have hap : ∀ (N : Nat) (Q : Prop), N = N → True := fun _ _ _ => trivial
          clear hj1 hDr0 hCq hOw hap
          refine wp_region_noPanic ?_
          refine wp_region_held_drew (S := fun w' => Below w6.heap.size w6 w') (by kernel_rfl) (Below.drew (Below.refl _ _)) (fun hHeld => ?_)
          refine wpAnyH_take (i := 1) (oi := ⟨some 92, _, _, _, _, _⟩) (v := ?_) rfl (by kernel_rfl) (by kernel_rfl) (by kernel_rfl) (fun _ _ _ h => h) (Or.inl ⟨by rfl, ?_⟩) (by assumption) ?_
          rotate_left 1
          · intro w hSw; (try dsimp only at hSw); go_simp; try with_reducible rfl
          simp only [Act.put, List.setIfInBounds_toArray, List.set_cons_zero, List.set_cons_succ]
          refine wpAnyH_take (i := 2) (oi := ⟨some 93, _, _, _, _, _⟩) (v := ?_) rfl (by kernel_rfl) (by kernel_rfl) (by kernel_rfl) (fun _ _ _ h => h) (Or.inl ⟨by rfl, ?_⟩) (by assumption) ?_
          rotate_left 1
          · intro w hSw; (try dsimp only at hSw); go_simp; try with_reducible rfl
          simp only [Act.put, List.setIfInBounds_toArray, List.set_cons_zero, List.set_cons_succ]
          refine wpAnyH_take (i := 3) (oi := ⟨some 94, _, _, _, _, _⟩) (v := ?_) rfl (by kernel_rfl) (by kernel_rfl) (by kernel_rfl) (fun _ _ _ h => h) (Or.inl ⟨by rfl, ?_⟩) (by assumption) ?_
          rotate_left 1
          · intro w hSw; (try dsimp only at hSw); go_simp; try with_reducible rfl
          simp only [Act.put, List.setIfInBounds_toArray, List.set_cons_zero, List.set_cons_succ]
          refine wpAnyH_take (i := 5) (oi := ⟨some 96, _, _, _, _, _⟩) (v := ?_) rfl (by kernel_rfl) (by kernel_rfl) (by kernel_rfl) (fun _ _ _ h => h) (Or.inl ⟨by rfl, ?_⟩) (by assumption) ?_
          rotate_left 1
          · intro w hSw; (try dsimp only at hSw); go_simp; try with_reducible rfl
          simp only [Act.put, List.setIfInBounds_toArray, List.set_cons_zero, List.set_cons_succ]
          refine wpAnyH_take (i := 6) (oi := ⟨some 97, _, _, _, _, _⟩) (v := ?_) rfl (by kernel_rfl) (by kernel_rfl) (by kernel_rfl) (fun _ _ _ h => h) (Or.inl ⟨by rfl, ?_⟩) (by assumption) ?_
          rotate_left 1
          · intro w hSw; (try dsimp only at hSw); go_simp; try with_reducible rfl
          simp only [Act.put, List.setIfInBounds_toArray, List.set_cons_zero, List.set_cons_succ]
          refine wpAnyH_take (i := 7) (oi := ⟨some 98, _, _, _, _, _⟩) (v := ?_) rfl (by kernel_rfl) (by kernel_rfl) (by kernel_rfl) (fun _ _ _ h => h) (Or.inl ⟨by rfl, ?_⟩) (by assumption) ?_
          rotate_left 1
          · intro w hSw; (try dsimp only at hSw); go_simp; try with_reducible rfl
          simp only [Act.put, List.setIfInBounds_toArray, List.set_cons_zero, List.set_cons_succ]
          refine wpAnyH_take (i := 8) (oi := ⟨some 99, _, _, _, _, _⟩) (v := .slice Ad (no - j1) (co - j1)) rfl (by kernel_rfl) (by kernel_rfl) (by kernel_rfl) (fun _ _ _ h => h) (Or.inl ⟨by rfl, by intro w hSw; (try dsimp only at hSw); go_simp⟩) (by assumption) ?_
          simp only [Act.put, List.setIfInBounds_toArray, List.set_cons_zero, List.set_cons_succ]
          refine wpAnyH_ready (rs := [0]) (by kernel_rfl) (by simp) ?_
          refine AllReadyH.cons (o := ⟨some 91, _, _, _, _, _⟩) rfl (fun K hK => ?_) AllReadyH.nil
          go_simp
          have hbz : Below w6.heap.size w6 (w6.alloc (.cells #[] 126)).drew := ((Below.refl _ _).alloc (Nat.le_refl _) _).drew
          have hOe := (RK.Own.empty mkK (fun _ => False) (w := w6) (base := w6.heap.size) 126 (Nat.le_refl _)).below (Below.drew (Below.refl _ (w6.alloc (.cells #[] 126))))
          refine hK.out _ _ hbz (fun hHeld' => ?_)
          clear hHeld
          have hHeld := hHeld'
          clear hHeld'
          clear hK K
          try (simp only [Act.put, List.setIfInBounds_toArray, List.set_cons_zero, List.set_cons_succ])
          refine wpAnyH_ready (rs := [4]) (by kernel_rfl) (by simp) ?_
          refine AllReadyH.cons (o := ⟨some 95, _, _, _, _, _⟩) rfl (fun K hK => ?_) AllReadyH.nil
          refine RK.step_appK mkK _ rfl (.tmp 91) (.tmp 94) 116 rfl (fun _ => False) w6.heap.size 126 _ 96 Tryd.underlying116 zinfo_rw rfl (by decide) (.slice (some ⟨w6.heap.size, 0, none⟩) 0 0) 0 [] rfl hOe (fun _ h => h.elim) (some ⟨b3, o3, none⟩) j co (out.take j) rfl (fun _ => True) (RK.C.below hTk hbz) (fun _ _ h => h) j (out.take j) (Nat.zero_add _) (List.nil_append _) (by unfold maxLen; omega) (by omega) hbz.size ?_
          intro A8 c8 w8 hO8 hG8 hx8
          have hb8 := hbz.grown hG8 hbz.size (fun q e => (RK.Own.lt hOe q e).1)
          refine hK.out _ _ hb8 (fun hHeld' => ?_)
          clear hHeld hbz hOe
          have hHeld := hHeld'
          clear hHeld'
          clear hK K
          try (simp only [Act.put, List.setIfInBounds_toArray, List.set_cons_zero, List.set_cons_succ])
          refine wpAnyH_ready (rs := [9]) (by kernel_rfl) (by simp) ?_
          refine AllReadyH.cons (o := ⟨some 100, _, _, _, _, _⟩) rfl (fun K hK => ?_) AllReadyH.nil
          refine RK.step_appK mkK _ rfl (.tmp 95) (.tmp 99) 116 rfl (fun _ => False) w6.heap.size 126 _ 96 Tryd.underlying116 zinfo_rw rfl (by decide) (.slice A8 j c8) j (out.take j) rfl hO8 (fun _ h => h.elim) _ (no - j1) (co - j1) (out.drop j1) rfl (fun _ => True) (RK.C.below hDr hb8) (fun _ _ h => h) (no - 1) (delV out (x.id, x.out)) (by have := HJ1.out; omega) HD.out.symm (by unfold maxLen; omega) (by omega) hb8.size ?_
          intro A9 c9 w9 hO9 hG9 hx9
          have hb9 := hb8.grown hG9 hb8.size (fun q e => (RK.Own.lt hO8 q e).1)
          have hM9 := hM6.anew hb9 hO9
          refine hK.out _ _ hb9 (fun hHeld' => ?_)
          clear hHeld
          have hHeld := hHeld'
          clear hHeld'
          clear hK K
          try (simp only [Act.put, List.setIfInBounds_toArray, List.set_cons_zero, List.set_cons_succ])
          refine wpAnyH_take (i := 10) (oi := ⟨some 11, _, _, _, _, _⟩) (v := ?_) rfl (by kernel_rfl) (by kernel_rfl) (by kernel_rfl) (fun _ _ _ h => h) (Or.inl ⟨by rfl, ?_⟩) (by assumption) ?_
          rotate_left 1
          · intro w hSw; (try dsimp only at hSw); go_simp; try with_reducible rfl
          simp only [Act.put, List.setIfInBounds_toArray, List.set_cons_zero, List.set_cons_succ]
          refine wpAnyH_done (by kernel_rfl) ?_ _
          refine NoPanic.normal ?_

          clear hAd hwj hjc hjn hj10 hM6 hTk hDr hHeld hO8 hG8 hx8 hb8 hO9 hG9 hx9 hb9
          have HOK3 : Hid (LwOk (g + (i + 1)) o ⟨delV out (x.id, x.out), gone ++ [((x.id, x.out), c)], f⟩) := HOK2
          by_cases htop : 2100000000000000 < s + zc
          · have HF : Hid (lwInK k ins out0 gone0 0 = .error 24) := Lib.hid (by rw [HP2.out, if_pos (show topM < s + zc from htop)])
            have hBE := hM9.bel
            clear hM9
            go_wp2
            exact HR.out _ _ _ _ _ _ _ _ _ _ _ _ _ _ _ _ _ _ _ _ _ _ _ _ _ _ _ _ _ _ _ _ _ _ _ _ _ _ _ _ _ _ _ _ _ _ _ _ _ HF.out hBE
          · have HPN : Hid (lwInK k ins out0 gone0 0 = lwIns (ins.drop (i + 1)) (delV out (x.id, x.out)) (gone ++ [((x.id, x.out), c)]) (s + zc)) := Lib.hid (by rw [HP2.out, if_neg (show ¬ topM < s + zc from htop)])
            go_wp2
            go_roundw
            case rel => exact ⟨i + 1, _, _, s + zc, A9, no - 1, c9, A6, ng + 1, c6, by omega, by go_num, rfl, rfl, rfl, by omega, by omega, HPN, HOK3, hM9⟩
            case measure => simp [intOf]; omega
      · have hlt' : ¬ (i : Int) < (n1 : Int) := by omega
        have HF : Hid (lwInK k ins out0 gone0 0 = .ok (out, gone, s)) := Lib.hid (by rw [HP.out, List.drop_eq_nil_of_le (by rw [HLN.out]; omega)]; rfl)
        obtain rfl : n1 = i := by omega
        have hok := HOK.out
        clear HOK
        go_wp2
        exact HE.out _ _ _ _ _ _ _ _ _ _ _ _ _ _ _ _ _ _ _ _ _ _ _ _ _ _ _ _ _ _ _ _ _ _ _ _ _ _ _ _ _ _ _ _ _ _ _ _ _ _ _ _ _ _ _ _ _ _ HF.out hM hok hs0 hs1
theorem built_rw (xs ys : List Int) (h : xs.length = 32) (k : ys.length = 32) (o x z : Int) (p : Nat) : Tryd.prog.built 126 [(0, .agg (ptL xs o).toArray), (1, .agg (cnCells ⟨x, ys, z, p⟩).toArray)] = some (mkCells ((xs, o), ⟨x, ys, z, p⟩)).toArray := by
  obtain ⟨a0, a1, a2, a3, a4, a5, a6, a7, a8, a9, a10, a11, a12, a13, a14, a15, a16, a17, a18, a19, a20, a21, a22, a23, a24, a25, a26, a27, a28, a29, a30, a31, rfl⟩ := list32b xs h
  obtain ⟨b0, b1, b2, b3, b4, b5, b6, b7, b8, b9, b10, b11, b12, b13, b14, b15, b16, b17, b18, b19, b20, b21, b22, b23, b24, b25, b26, b27, b28, b29, b30, b31, rfl⟩ := list32b ys k
  kernel_rfl
noncomputable def lwB6 : Code := ((Tryd.f59.body.bind (findBk 6)).getD .skip)
set_option maxHeartbeats 16000000 in
theorem lw_outs {u0 u2 u3 u4 u5 u6 u7 u8 u9 u10 u12 u13 u15 u17 u18 u19 u20 u21 u22 u23 u24 u25 u26 u27 u28 u29 u30 u31 u32 u33 u34 u35 u36 u37 u38 u39 u40 u41 u42 u43 u44 u45 u46 u47 u48 u49 u50 u51 u52 u53 u54 u55 u56 u57 u58 u59 u60 u61 u62 u63 u64 u65 u66 u67 u68 u69 u70 u71 u72 u73 u74 u75 u76 u77 u78 u79 u80 u81 u82 u83 u84 u85 u86 u87 u88 u89 u90 u91 u92 u93 u94 u95 u96 u97 u98 u99 u100 u101 u102 u103 u104 u105 u106 u107 u108 u109 u110 u111 u112 u113 u114 u115 u116 u117 u118 u119 u120 u121 u122 u123 u124 u128 u129 u130 u131 u132 u133 u134 u135 u136 u137 u138 u139 u140 u141 u142 u143 u144 u145 u146 u147 u148 u149 u150 u151 u152 : Value} (w0 wr0 : World) (hT : Tabs w0) (base gB gT gI k : Nat) (ht : Int) (id : List Int) (hd : Dig id) (cB cT : Array Value) (hw : w0.heap.size ≤ base) (S : Nat → Prop) (A2 : Option Addr) (n2 c2 : Nat) (outs : List TOut) (hn : n2 ≤ 6) (hO : outK.C S w0 A2 n2 outs)
    (out0 gone : List (Pt × Cn)) (Ao Ag : Option Addr) (no co ng cg : Nat) (ho : out0.length ≤ 2000) (hM0 : LwM w0 base gB gT gI cB cT (nums .u8 id).toArray out0 gone Ao no co Ag ng cg wr0) (Q0 : Exit → Act → World → Prop)
    (hexit : ∀ x25 x26 x127 x128 x129 x130 x131 x132 x133 x134 x135 x136 x137 x138 x139 x140 x141 x142 x143 x144 x145 x146 x147 x148 Ao2 no2 co2 w', LwM w0 base gB gT gI cB cT (nums .u8 id).toArray (out0 ++ mkOuts id ht k 0 outs) gone Ao2 no2 co2 Ag ng cg w' → Q0 .normal ⟨#[u0, .int .i64 ht, u2, u3, u4, u5, u6, u7, u8, u9, u10, .slice Ao2 no2 co2, u12, u13, .int .i64 (k : Int), u15, .pointer (some ⟨gI, 0, none⟩), u17, u18, u19, u20, u21, u22, u23, u24, x25, x26, u27, u28, u29, u30, u31, u32, u33, u34, u35, u36, u37, u38, u39, u40, u41, u42, u43, u44, u45, u46, u47, u48, u49, u50, u51, u52, u53, u54, u55, u56, u57, u58, u59, u60, u61, u62, u63, u64, u65, u66, u67, u68, u69, u70, u71, u72, u73, u74, u75, u76, u77, u78, u79, u80, u81, u82, u83, u84, u85, u86, u87, u88, u89, u90, u91, u92, u93, u94, u95, u96, u97, u98, u99, u100, u101, u102, u103, u104, u105, u106, u107, u108, u109, u110, u111, u112, u113, u114, u115, u116, u117, u118, u119, u120, u121, u122, u123, u124, .slice A2 n2 c2, .int .i64 (n2 : Int), x127, x128, x129, x130, x131, x132, x133, x134, x135, x136, x137, x138, x139, x140, x141, x142, x143, x144, x145, x146, x147, x148, u149, u150, u151, u152], []⟩ w') :
    Code.wp Tryd.prog lwB6 Q0 ⟨#[u0, .int .i64 ht, u2, u3, u4, u5, u6, u7, u8, u9, u10, .slice Ao no co, u12, u13, .int .i64 (k : Int), u15, .pointer (some ⟨gI, 0, none⟩), u17, u18, u19, u20, u21, u22, u23, u24, u25, u26, u27, u28, u29, u30, u31, u32, u33, u34, u35, u36, u37, u38, u39, u40, u41, u42, u43, u44, u45, u46, u47, u48, u49, u50, u51, u52, u53, u54, u55, u56, u57, u58, u59, u60, u61, u62, u63, u64, u65, u66, u67, u68, u69, u70, u71, u72, u73, u74, u75, u76, u77, u78, u79, u80, u81, u82, u83, u84, u85, u86, u87, u88, u89, u90, u91, u92, u93, u94, u95, u96, u97, u98, u99, u100, u101, u102, u103, u104, u105, u106, u107, u108, u109, u110, u111, u112, u113, u114, u115, u116, u117, u118, u119, u120, u121, u122, u123, u124, .slice A2 n2 c2, .int .i64 (n2 : Int), .int .i64 0, u128, u129, u130, u131, u132, u133, u134, u135, u136, u137, u138, u139, u140, u141, u142, u143, u144, u145, u146, u147, u148, u149, u150, u151, u152], []⟩ wr0 := by
  have HE := Lib.hid hexit
  have hUH := Tryd.underlying25
  have hn2I : (n2 : Int) ≤ 6 := by omega
  have HLN := Lib.hid hO.len
  have HL1 := Lib.hid ho
  have hiI := info_hh id hd.1
  have hM0' : LwM w0 base gB gT gI cB cT (nums .u8 id).toArray (out0 ++ mkOuts id ht k 0 (outs.take 0)) gone Ao no co Ag ng cg wr0 := by
    have e : out0 ++ mkOuts id ht k 0 (outs.take 0) = out0 := by simp [mkOuts]
    rw [e]
    exact hM0
  clear hexit ho hM0
  conv => arg 2; whnf
  go_wp2
  go_loopw [11, 127] (fun v11 v127 wr => ∃ (i : Nat) (Ao : Option Addr) (no co : Nat), i ≤ n2 ∧ v127 = .int .i64 i ∧ v11 = .slice Ao no co ∧ LwM w0 base gB gT gI cB cT (nums .u8 id).toArray (out0 ++ mkOuts id ht k 0 (outs.take i)) gone Ao no co Ag ng cg wr ) (fun _ v _ => n2 - (intOf v).toNat)
  case atStart => exact ⟨0, Ao, no, co, by omega, rfl, rfl, hM0'⟩
  case round =>
    clear hM0'
    obtain ⟨i, Ao, N, co, hi, rfl, rfl, hM⟩ := hrel
    have hb := hM.bel
    by_cases hlt : i < n2
    · have hlt' : (i : Int) < (n2 : Int) := by omega
      have hii : (0 : Int) ≤ (i : Int) := by omega
      have hi32 : (i : Int) ≤ 4294967295 := by omega
      obtain ⟨bo, oo, x, hAo, hxo0, hc0, hc1, hxo⟩ := out_at hO i hlt
      subst hAo
      have HX := Lib.hid hxo0
      have hc0' := cell_below hb hc0
      have hc1' := cell_below hb hc1
      have hsf : Dig (sumF (bytesOf x.script)) := ⟨sumF_length _, sumF_bytes _⟩
      obtain ⟨dd, hdd⟩ : ∃ d, sumF (bytesOf x.script) = d := ⟨_, rfl⟩
      rw [hdd] at hsf
      have HDD := Lib.hid hdd
      have HCC : Hid (mkCn x ht k = ⟨x.coins, dd, ht, k⟩) := Lib.hid (by rw [← hdd]; rfl)
      have hcok : (⟨x.coins, dd, ht, k⟩ : Cn).Ok := ⟨hsf⟩
      have hpt : PtOk (id, (i : Int)) := ⟨hd, hii, hi32⟩
      have hwi : IntKind.u32.wrap (i : Int) = (i : Int) := cs_u32wrap i (by omega)
      have hmo : MkOk ((id, (i : Int)), (⟨x.coins, dd, ht, k⟩ : Cn)) := ⟨hpt, hcok⟩
      have hNl : N ≤ 2006 := by
        rw [← RK.Own.len hM.rOut, List.length_append, mkOuts_length, List.length_take]
        have := HL1.out
        omega
      have HE2 : Hid ((out0 ++ mkOuts id ht k 0 (outs.take i)) ++ [((id, (i : Int)), (⟨x.coins, dd, ht, k⟩ : Cn))] = out0 ++ mkOuts id ht k 0 (outs.take (i + 1))) := Lib.hid (by rw [mkOuts_take HX.out, HCC.out, List.append_assoc])
      clear hc0 hc1 hxo0 hdd
      go_upto_region 41 with fail
      have hba : Below wr.heap.size wr (wr.alloc (.cells #[.int .i64 x.coins, .string x.script] 75)) := (Below.refl _ _).alloc (Nat.le_refl _) _
      refine wp_gen (q := fun wi => wi.heap[wr.heap.size]? = some (.cells #[.int .i64 x.coins, .string x.script] 75) ∧ Below wr.heap.size wr wi) ⟨heap_alloc_new _ _, hba⟩ (fun w2 hw2 => ?_)
      clear hba hc0' hc1'
      obtain ⟨g2, hb2⟩ := hw2
      have hM2 := hM.below hb2
      have hbB := hM2.bel
      have hMd := hM2.below (Below.drew (Below.refl _ _))
      have hI2 : w2.drew.heap[gI]? = some (.cells (nums .u8 id).toArray 25) := hM2.two.2
      have t0 : w2.drew.cell? ⟨wr.heap.size, 0, none⟩ = some (.int .i64 x.coins) := blk_cell g2 rfl
      have t1 : w2.drew.cell? ⟨wr.heap.size, 1, none⟩ = some (.string x.script) := blk_cell g2 rfl
      have hlt2 := heap_lt g2
      clear hM hM2 hb hb2
      refine wp_region_noPanic ?_
      refine wp_region_held_drew (S := fun w' => w'.heap[gI]? = some (.cells (nums .u8 id).toArray 25) ∧ w'.cell? ⟨wr.heap.size, 0, none⟩ = some (.int .i64 x.coins) ∧ w'.cell? ⟨wr.heap.size, 1, none⟩ = some (.string x.script)) (by kernel_rfl) ⟨hI2, t0, t1⟩ (fun hHeld => ?_)
      refine wpAnyH_take (i := 0) (oi := ⟨some 132, _, _, _, _, _⟩) (v := ?_) rfl (by kernel_rfl) (by kernel_rfl) (by kernel_rfl) (fun _ _ _ h => h) (Or.inl ⟨by rfl, ?_⟩) (by assumption) ?_
      rotate_left 1
      · intro w hSw; (try dsimp only at hSw); go_simp; try with_reducible rfl
      simp only [Act.put, List.setIfInBounds_toArray, List.set_cons_zero, List.set_cons_succ]
      refine wpAnyH_take (i := 1) (oi := ⟨some 133, _, _, _, _, _⟩) rfl (by kernel_rfl) (by kernel_rfl) (by kernel_rfl) (fun _ _ _ h => h) (yieldsIf_load_mid (by rfl) _ _ rfl _ _ rfl (nums .u8 id) _ (fun _ h => range_block h.1) hUH rfl hiI) (by assumption) ?_
      simp only [Act.put, List.setIfInBounds_toArray, List.set_cons_zero, List.set_cons_succ]
      refine wpAnyH_take (i := 2) (oi := ⟨some 134, _, _, _, _, _⟩) (v := ?_) rfl (by kernel_rfl) (by kernel_rfl) (by kernel_rfl) (fun _ _ _ h => h) (Or.inl ⟨by rfl, ?_⟩) (by assumption) ?_
      rotate_left 1
      · intro w hSw; (try dsimp only at hSw); go_simp; try with_reducible rfl
      simp only [Act.put, List.setIfInBounds_toArray, List.set_cons_zero, List.set_cons_succ]
      refine wpAnyH_take (i := 3) (oi := ⟨some 135, _, _, _, _, _⟩) (v := .int .u32 (i : Int)) rfl (by kernel_rfl) (by kernel_rfl) (by kernel_rfl) (fun _ _ _ h => h) (Or.inl ⟨by rfl, by intro w hSw; (try dsimp only at hSw); go_simp⟩) (by assumption) ?_
      simp only [Act.put, List.setIfInBounds_toArray, List.set_cons_zero, List.set_cons_succ]
      refine wpAnyH_take (i := 4) (oi := ⟨some 136, _, _, _, _, _⟩) (v := .agg (ptL id (i : Int)).toArray) rfl (by kernel_rfl) (by kernel_rfl) (by kernel_rfl) (fun _ _ _ h => h) (yieldsIf_build (by rfl) 77 #[(0, .tmp 133), (1, .tmp 135)] rfl [(0, .agg (nums .u8 id).toArray), (1, .int .u32 (i : Int))] rfl (ptL id (i : Int)).toArray (built_point id hd.1 (i : Int))) (by assumption) ?_
      simp only [Act.put, List.setIfInBounds_toArray, List.set_cons_zero, List.set_cons_succ]
      refine wpAnyH_take (i := 5) (oi := ⟨some 137, _, _, _, _, _⟩) (v := ?_) rfl (by kernel_rfl) (by kernel_rfl) (by kernel_rfl) (fun _ _ _ h => h) (Or.inl ⟨by rfl, ?_⟩) (by assumption) ?_
      rotate_left 1
      · intro w hSw; (try dsimp only at hSw); go_simp; try with_reducible rfl
      simp only [Act.put, List.setIfInBounds_toArray, List.set_cons_zero, List.set_cons_succ]
      refine wpAnyH_take (i := 6) (oi := ⟨some 138, _, _, _, _, _⟩) (v := ?_) rfl (by kernel_rfl) (by kernel_rfl) (by kernel_rfl) (fun _ _ _ h => h) (Or.inl ⟨by rfl, ?_⟩) (by assumption) ?_
      rotate_left 1
      · intro w hSw; (try dsimp only at hSw); go_simp; try with_reducible rfl
      simp only [Act.put, List.setIfInBounds_toArray, List.set_cons_zero, List.set_cons_succ]
      refine wpAnyH_take (i := 7) (oi := ⟨some 139, _, _, _, _, _⟩) (v := ?_) rfl (by kernel_rfl) (by kernel_rfl) (by kernel_rfl) (fun _ _ _ h => h) (Or.inl ⟨by rfl, ?_⟩) (by assumption) ?_
      rotate_left 1
      · intro w hSw; (try dsimp only at hSw); go_simp; try with_reducible rfl
      simp only [Act.put, List.setIfInBounds_toArray, List.set_cons_zero, List.set_cons_succ]
      refine wpAnyH_take (i := 8) (oi := ⟨some 140, _, _, _, _, _⟩) (v := ?_) rfl (by kernel_rfl) (by kernel_rfl) (by kernel_rfl) (fun _ _ _ h => h) (Or.inl ⟨by rfl, ?_⟩) (by assumption) ?_
      rotate_left 1
      · intro w hSw; (try dsimp only at hSw); go_simp; try with_reducible rfl
      simp only [Act.put, List.setIfInBounds_toArray, List.set_cons_zero, List.set_cons_succ]
      refine wpAnyH_take (i := 10) (oi := ⟨some 142, _, _, _, _, _⟩) (v := ?_) rfl (by kernel_rfl) (by kernel_rfl) (by kernel_rfl) (fun _ _ _ h => h) (Or.inl ⟨by rfl, ?_⟩) (by assumption) ?_
      rotate_left 1
      · intro w hSw; (try dsimp only at hSw); go_simp; try with_reducible rfl
      simp only [Act.put, List.setIfInBounds_toArray, List.set_cons_zero, List.set_cons_succ]
      refine wpAnyH_take (i := 11) (oi := ⟨some 143, _, _, _, _, _⟩) (v := ?_) rfl (by kernel_rfl) (by kernel_rfl) (by kernel_rfl) (fun _ _ _ h => h) (Or.inl ⟨by rfl, ?_⟩) (by assumption) ?_
      rotate_left 1
      · intro w hSw; (try dsimp only at hSw); go_simp; try with_reducible rfl
      simp only [Act.put, List.setIfInBounds_toArray, List.set_cons_zero, List.set_cons_succ]
      refine wpAnyH_ready (rs := [9]) (by kernel_rfl) (by simp) ?_
      refine AllReadyH.cons (o := ⟨some 141, _, _, _, _, _⟩) rfl (fun K hK => ?_) AllReadyH.nil
      go_simp
      refine (script_calls _ (hT.below (hbB.drew)) x.script hxo.sc).mono ?_
      rintro e w5 ⟨rfl, hbz⟩
      rw [HDD.out]
      have hM5 := hMd.below hbz
      have gO5 := heap_below hbz (show w2.drew.heap[wr.heap.size]? = _ from g2)
      refine hK.out _ _ ⟨heap_below hbz hHeld.1, cell_below hbz hHeld.2.1, cell_below hbz hHeld.2.2⟩ (fun hHeld' => ?_)
      clear hHeld hMd hbz
      have hHeld := hHeld'
      clear hHeld'
      clear hK K
      try (simp only [Act.put, List.setIfInBounds_toArray, List.set_cons_zero, List.set_cons_succ])
      refine wpAnyH_take (i := 12) (oi := ⟨some 144, _, _, _, _, _⟩) (v := .agg (cnCells (⟨x.coins, dd, ht, k⟩ : Cn)).toArray) rfl (by kernel_rfl) (by kernel_rfl) (by kernel_rfl) (fun _ _ _ h => h) (yieldsIf_build (by rfl) 106 #[(0, .tmp 138), (1, .tmp 141), (2, .tmp 142), (3, .tmp 143)] rfl [(0, .int .i64 x.coins), (1, .agg (nums .u8 dd).toArray), (2, .int .i64 ht), (3, .int .i64 (k : Int))] rfl (cnCells (⟨x.coins, dd, ht, k⟩ : Cn)).toArray (built_cn x.coins dd hsf.1 ht k)) (by assumption) ?_
      simp only [Act.put, List.setIfInBounds_toArray, List.set_cons_zero, List.set_cons_succ]
      refine wpAnyH_take (i := 13) (oi := ⟨some 145, _, _, _, _, _⟩) (v := .agg (mkCells ((id, (i : Int)), (⟨x.coins, dd, ht, k⟩ : Cn))).toArray) rfl (by kernel_rfl) (by kernel_rfl) (by kernel_rfl) (fun _ _ _ h => h) (yieldsIf_build (by rfl) 126 #[(0, .tmp 136), (1, .tmp 144)] rfl [(0, .agg (ptL id (i : Int)).toArray), (1, .agg (cnCells (⟨x.coins, dd, ht, k⟩ : Cn)).toArray)] rfl (mkCells ((id, (i : Int)), (⟨x.coins, dd, ht, k⟩ : Cn))).toArray (built_rw id dd hd.1 hsf.1 (i : Int) x.coins ht k)) (by assumption) ?_
      simp only [Act.put, List.setIfInBounds_toArray, List.set_cons_zero, List.set_cons_succ]
      refine wpAnyH_ready (rs := [14]) (by kernel_rfl) (by simp) ?_
      refine AllReadyH.cons (o := ⟨some 146, _, _, _, _, _⟩) rfl (fun K hK => ?_) AllReadyH.nil
      refine step_build1 (by rfl) 116 126 _ rfl Tryd.underlying116 _ 68 96 zinfo_rw (by decide) (by decide) (mkCells ((id, (i : Int)), (⟨x.coins, dd, ht, k⟩ : Cn))) (mkCells_length hmo) rfl rfl ?_
      have hbz : Below w5.heap.size w5 (w5.alloc (.cells (mkCells ((id, (i : Int)), (⟨x.coins, dd, ht, k⟩ : Cn))).toArray 126)) := (Below.refl _ _).alloc (Nat.le_refl _) _
      have hM6 := hM5.below hbz
      have gO6 := heap_below hbz gO5
      have hq2 := C1 (d := mkK) (x := ((id, (i : Int)), (⟨x.coins, dd, ht, k⟩ : Cn))) (heap_alloc_new w5 (.cells (mkCells ((id, (i : Int)), (⟨x.coins, dd, ht, k⟩ : Cn))).toArray 126)) ⟨rfl, hmo⟩
      refine hK.out _ _ ⟨heap_below hbz hHeld.1, cell_below hbz hHeld.2.1, cell_below hbz hHeld.2.2⟩ (fun hHeld' => ?_)
      clear hHeld hM5 hbz
      have hHeld := hHeld'
      clear hHeld'
      clear hK K
      try (simp only [Act.put, List.setIfInBounds_toArray, List.set_cons_zero, List.set_cons_succ])
      refine wpAnyH_ready (rs := [15]) (by kernel_rfl) (by simp) ?_
      refine AllReadyH.cons (o := ⟨some 147, _, _, _, _, _⟩) rfl (fun K hK => ?_) AllReadyH.nil
      have hq1 := hM6.rOut
      have hq3 := hM6.le
      refine RK.step_appK mkK _ rfl (.tmp 132) (.tmp 146) 116 rfl (fun _ => False) base 126 _ 96 Tryd.underlying116 zinfo_rw rfl (by decide) (.slice Ao N co) N (out0 ++ mkOuts id ht k 0 (outs.take i)) rfl hq1 (fun _ h => h.elim) _ 1 1 [((id, (i : Int)), (⟨x.coins, dd, ht, k⟩ : Cn))] rfl (fun _ => True) hq2 (fun _ _ h => h) (N + 1) _ rfl rfl (by unfold maxLen; omega) (by omega) hq3 ?_
      intro A7 c7 w7 hO7 hG7 hx7
      have hM7 := hM6.comes hw hO7 hG7 hx7
      have gO7 := heap_grown hG7 gO6 (own_blk_neK hq1 gO6 (by decide))
      refine hK.out _ _ ⟨hM7.two.2, blk_cell gO7 rfl, blk_cell gO7 rfl⟩ (fun hHeld' => ?_)
      clear hHeld
      have hHeld := hHeld'
      clear hHeld'
      clear hK K
      try (simp only [Act.put, List.setIfInBounds_toArray, List.set_cons_zero, List.set_cons_succ])
      refine wpAnyH_take (i := 16) (oi := ⟨some 11, _, _, _, _, _⟩) (v := ?_) rfl (by kernel_rfl) (by kernel_rfl) (by kernel_rfl) (fun _ _ _ h => h) (Or.inl ⟨by rfl, ?_⟩) (by assumption) ?_
      rotate_left 1
      · intro w hSw; (try dsimp only at hSw); go_simp; try with_reducible rfl
      simp only [Act.put, List.setIfInBounds_toArray, List.set_cons_zero, List.set_cons_succ]
      refine wpAnyH_done (by kernel_rfl) ?_ _
      refine NoPanic.normal ?_

      clear hwi hI2 t0 t1 hbB hM6 hq1 hq2 hq3 hO7 hG7 hx7 gO5 gO6 gO7 hHeld hlt2
      have hM8 : LwM w0 base gB gT gI cB cT (nums .u8 id).toArray (out0 ++ mkOuts id ht k 0 (outs.take (i + 1))) gone A7 (N + 1) c7 Ag ng cg w7 := by rw [← HE2.out]; exact hM7
      clear hM7
      go_wp2
      go_roundw
      case rel => exact ⟨i + 1, A7, N + 1, c7, by omega, by go_num, rfl, hM8⟩
      case measure => simp [intOf]; omega
    · have hlt' : ¬ (i : Int) < (n2 : Int) := by omega
      have hin : outs.take i = outs := List.take_of_length_le (by rw [HLN.out]; omega)
      rw [hin] at hM
      go_wp2
      exact HE.out _ _ _ _ _ _ _ _ _ _ _ _ _ _ _ _ _ _ _ _ _ _ _ _ _ _ _ _ hM
end Go.Proofs.YtjlkakggmfmfiaaDoor
end

/-! ## Plan19 -/
section
set_option maxRecDepth 100000
set_option linter.unusedVariables false
namespace Go.Proofs.YtjlkakggmfmfiaaDoor
open Go Go.RowKit
theorem results_tmp4 {fn : Func} {t u v x : Tmp} (h : fn.results = #[.tmp t, .tmp u, .tmp v, .tmp x]) (tmps : Array Value) (P : Program) (w : World) :
    (results fn tmps).run P w = .ok (.tuple #[tmps.getD t undef, tmps.getD u undef, tmps.getD v undef, tmps.getD x undef]) w := by
  simp [results, h]
def LPlanRes (w w' : World) (Aa : Option Addr) (na ca : Nat) : Except Int LwS → Ending → Prop
  | .error x, e => e = .returned (.tuple #[.slice Aa na ca, .slice none 0 0, .int .i64 0, .int .i64 x])
  | .ok lw, e => ∃ A1 c1 A2 c2, e = .returned (.tuple #[.slice A1 lw.out.length c1, .slice A2 lw.gone.length c2, .int .i64 lw.fees, .int .i64 0]) ∧
      mkK.Own (fun _ => False) w' w.heap.size 126 (.slice A1 lw.out.length c1) lw.out.length lw.out ∧ mkK.Own (fun _ => False) w' w.heap.size 126 (.slice A2 lw.gone.length c2) lw.gone.length lw.gone
def LPlanPost (w : World) (Aa : Option Addr) (na ca : Nat) (r : Except Int LwS) (e : Ending) (w' : World) : Prop := Below w.heap.size w w' ∧ LPlanRes w w' Aa na ca r e
theorem LPlanPost.err {w w' : World} {Aa : Option Addr} {na ca : Nat} {r : Except Int LwS} {x : Int} {e : Ending} (hb : Below w.heap.size w w') (h : r = .error x) (he : e = .returned (.tuple #[.slice Aa na ca, .slice none 0 0, .int .i64 0, .int .i64 x])) : LPlanPost w Aa na ca r e w' := by
  subst h
  exact ⟨hb, he⟩
theorem LwOk.next {n1 k na : Nat} {out gone : List (Pt × Cn)} {f f' : Int} (h : LwOk (6 * k + n1) (na + 6 * k) ⟨out, gone, f⟩) {t : TTx} (ht : Int) (hn1 : n1 ≤ 6) (hn2 : t.outs.length ≤ 6) (hc : okC t = true) (f0 : 0 ≤ f') (f1 : f' ≤ topM) (id : List Int) : LwOk (6 * (k + 1)) (na + 6 * (k + 1)) ⟨out ++ mkOuts id ht k 0 t.outs, gone, f'⟩ := by
  obtain ⟨_, _, _, hr⟩ := okC_sum hc
  refine ⟨?_, ?_, fun x hx => ?_, h.rg, f0, f1⟩
  · have := h.out
    simp only [List.length_append, mkOuts_length] at this ⊢
    omega
  · have := h.gone
    simp only at this ⊢
    omega
  · rcases List.mem_append.1 hx with hx | hx
    · exact h.ro x hx
    · obtain ⟨o, ho, he⟩ := mkOuts_mem hx
      rw [he]
      exact hr o ho
theorem lwTx_of {h : Int} {all : List (Pt × Cn)} {k : Nat} {t : TTx} {st : LwS} (hi : idIn all (idF t) = false) : lwTx h all k t st = match lwInK k t.ins st.out st.gone 0 with
    | .error e => .error e
    | .ok (out, gone, s) => if 0 < k ∧ s < outSum t then .error 24 else if 0 < k ∧ topM < st.fees + (s - outSum t) then .error 24 else .ok ⟨out ++ mkOuts (idF t) h k 0 t.outs, gone, if 0 < k then st.fees + (s - outSum t) else st.fees⟩ := by
  unfold lwInK
  by_cases hk : k = 0
  · subst hk
    rw [lwTx_first hi, if_pos rfl]
    simp
  · rw [lwTx_next hi hk, if_neg hk]
    have hp : 0 < k := by omega
    cases lwIns t.ins st.out st.gone 0 with
    | error e => rfl
    | ok z =>
      obtain ⟨o, g, s⟩ := z
      simp [hp]
set_option maxHeartbeats 16000000 in
theorem plan19_calls (w : World) (hT : Tabs w) (hN : Now w) (S S2 : Nat → Prop) (h : Hd) (hk : h.Ok) (A : Option Addr) (n c : Nat) (ts : List TTx) (hnc : n ≤ c) (hcm : c ≤ maxLen) (hn : n ≤ 6) (hC : txK.C S w A n ts) (hts : ∀ t ∈ ts, t.ins.length ≤ 6 ∧ t.outs.length ≤ 6) (ht : Int) (Aa : Option Addr) (na ca : Nat) (all : List (Pt × Cn)) (hna : na ≤ 1000) (hA : mkK.C S2 w Aa na all) (hcr : ∀ x ∈ all, 0 ≤ x.2.coins ∧ x.2.coins ≤ topM) :
    Calls Tryd.prog 59 #[.agg (blkCells h A n c).toArray, .int .i64 ht, .slice Aa na ca] w (LPlanPost w Aa na ca (lawF h ts ht all)) := by
  have hUB := Tryd.underlying64
  have hUT := Tryd.underlying69
  have hUR := Tryd.underlying126
  have hUH := Tryd.underlying25
  have hiB := info_blkA hk A n c
  have hnI : (n : Int) ≤ 6 := by omega
  have hnaI : (na : Int) ≤ 1000 := by omega
  have hln := Lib.hid hC.len
  have g0 := heap_alloc_new w (.cells (blkCells h A n c).toArray 64)
  have hb0 : Below w.heap.size w (w.alloc (.cells (blkCells h A n c).toArray 64)) := (Below.refl _ _).alloc (Nat.le_refl _) _
  go_enter Tryd.func59, Tryd.ntmps59
  go_upto_region 1 with fail
  refine wp_gen (q := fun wi => Below w.heap.size w wi ∧ wi.heap[w.heap.size]? = some (.cells (blkCells h A n c).toArray 64)) ⟨hb0, g0⟩ (fun w0 hw => ?_)
  clear hb0 g0
  obtain ⟨hb0, g0⟩ := hw
  go_wp2_with (first | ((with_reducible refine wpList_at 27 ?_); refine wpList_load_row rfl 64 (.tmp 3) rfl w.heap.size rfl 64 _ _ _ g0 hUB rfl hiB ?_))
  refine (chk_calls w0 (hT.below hb0) (hN.below hb0) S h hk A n c ts hnc hcm (by omega) (RK.C.below hC hb0)).mono ?_
  rintro e w1 ⟨rfl, hb1⟩
  have g1 := heap_below hb1 g0
  have hB1 := below_then hb0 hb0.size hb1
  clear hb0 g0 hb1
  obtain ⟨ce, hce⟩ : ∃ e, chkF h ts = e := ⟨_, rfl⟩
  rw [hce]
  by_cases hc0 : ce = 0
  · subst hc0
    have HLF : Hid (lawF h ts ht all = lwTxs ht all 0 ts ⟨all, [], 0⟩) := Lib.hid (by unfold lawF; rw [if_neg (by rw [hce]; decide)])
    have HOKC := Lib.hid (fun t ht => (chkF_txs hce t ht).2)
    have HEE := Lib.hid (fun t ht => (chkF_txs hce t ht).1)
    have HNA := Lib.hid hA.len
    clear hce
    have hoe := RK.Own.empty mkK (fun _ => False) (w := w1) (base := w1.heap.size) 126 (Nat.le_refl _)
    have hAa : mkK.C S2 (w1.alloc (.cells #[] 126)) Aa na all := RK.C.below (RK.C.below hA hB1) ((Below.refl _ _).alloc (Nat.le_refl _) _)
    have hle1 : w1.heap.size ≤ (w1.alloc (.cells #[] 126)).heap.size := by simp
    go_upto_region 5 with (first
      | ((with_reducible refine wpList_at 35 ?_); refine RK.wpList_appK mkK _ rfl (.tmp 33) (.tmp 34) 116 rfl (fun _ => False) w1.heap.size 126 _ 96 Tryd.underlying116 zinfo_rw rfl (by decide) (.slice (some ⟨w1.heap.size, 0, none⟩) 0 0) 0 [] rfl hoe (fun _ h => h.elim) Aa na ca all rfl S2 hAa (fun _ _ h => h) na all (Nat.zero_add _) (List.nil_append _) (by unfold maxLen; omega) (by omega) hle1 ?_
         intro A3 c3 w2 hA2 hG hx))
    have hB2 : Below w.heap.size w w2 := (hB1.alloc hB1.size _).grown hG (by simp; have := hB1.size; omega) (fun q e => by have := (RK.Own.lt hoe q e).1; have := hB1.size; omega)
    have hs2 : w1.heap.size ≤ w2.heap.size := by have := hG.size; simp at this; omega
    have g2 := heap_grown hG (blk_alloc g1 (.cells #[] 126)) (fun e => by have := (RK.Own.lt hoe _ e.symm).1; have := heap_lt g1; omega)
    have HAP := Lib.hid (fun q e => (RK.Own.lt hA2 q e).2 : ∀ q, (Value.slice A3 na c3).ownBlock = some q → q < w2.heap.size)
    clear hoe hAa hle1 hG hx g1
    have hga := RK.Own.empty mkK (fun _ => False) (w := w2) (base := w2.heap.size) 126 (Nat.le_refl _)
    have hA2' := hA2.below ((Below.refl _ _).alloc (Nat.le_refl _) (.cells #[] 126))
    have gB2 := blk_alloc g2 (.cells #[] 126)
    have hB2' := hB2.alloc hB2.size (.cells #[] 126)
    go_upto_region 6 with fail
    refine wp_gen (q := fun wi => mkK.Own (fun _ => False) wi w2.heap.size 126 (.slice (some ⟨w2.heap.size, 0, none⟩) 0 0) 0 [] ∧ mkK.Own (fun _ => False) wi w1.heap.size 126 (.slice A3 na c3) na all ∧ wi.heap[w.heap.size]? = some (.cells (blkCells h A n c).toArray 64) ∧ Below w.heap.size w wi) ⟨hga, hA2', gB2, hB2'⟩ (fun w3 hw => ?_)
    clear hga hA2' hA2 g2 gB2 hB2 hB2'
    obtain ⟨hG3, hO3, g3, hB3⟩ := hw
    have tS3 : w3.cell? ⟨w.heap.size, 68, none⟩ = some (.slice A n c) := blk_cell g3 (by rw [List.getElem?_toArray]; exact blkCells_at hk A n c)
    go_upto_region 8 with fail
    have HTS := Lib.hid hts
    have HCR := Lib.hid hcr
    have HP0 : Hid (lawF h ts ht all = lwTxs ht all 0 (ts.drop 0) ⟨all, [], 0⟩) := Lib.hid (by rw [HLF.out, List.drop_zero])
    have HS0 : Hid (LwOk 0 (na + 0) ⟨all, [], 0⟩) := Lib.hid ⟨by have := hA.len; simp only; omega, Nat.le_refl _, hcr, (fun x h => nomatch h), Int.le_refl _, (by show (0 : Int) ≤ topM; decide)⟩
    have hM3 : LwM w w1.heap.size w.heap.size w.heap.size w.heap.size (blkCells h A n c).toArray #[] #[] all [] A3 na c3 (some ⟨w2.heap.size, 0, none⟩) 0 0 w3 → True := fun _ => trivial
    clear hM3
    have hs2' := hB3.size
    clear HLF hts hcr
    go_wp2
    go_loopw [11, 12, 13, 40] (fun v11 v12 v13 v40 wr => ∃ (k : Nat) (Ao : Option Addr) (no co : Nat) (Ag : Option Addr) (ng cg : Nat) (st : LwS), k ≤ n ∧ v40 = .int .i64 k ∧ v11 = .slice Ao no co ∧ v12 = .slice Ag ng cg ∧ v13 = .int .i64 st.fees ∧ Hid (LwOk (6 * k) (na + 6 * k) st) ∧ Hid (lawF h ts ht all = lwTxs ht all k (ts.drop k) st) ∧
        mkK.Own (fun _ => False) wr w1.heap.size 126 (.slice Ao no co) no st.out ∧ mkK.Own (fun _ => False) wr w1.heap.size 126 (.slice Ag ng cg) ng st.gone ∧ (∀ q, (Value.slice Ao no co).ownBlock = some q → (Value.slice Ag ng cg).ownBlock ≠ some q) ∧ wr.heap[w.heap.size]? = some (.cells (blkCells h A n c).toArray 64) ∧ Below w.heap.size w wr ∧ w1.heap.size ≤ wr.heap.size) (fun _ _ _ v _ => n - (intOf v).toNat)
    case atStart =>
      refine ⟨0, A3, na, c3, some ⟨w2.heap.size, 0, none⟩, 0, 0, ⟨all, [], 0⟩, by omega, rfl, rfl, rfl, rfl, HS0, HP0, hO3, hG3.base_ hs2, fun q e f => ?_, g3, hB3, by have h1 : w2.heap.size < w3.heap.size := (RK.Own.lt hG3 _ rfl).2; omega⟩
      have h1 := HAP.out q e
      have h2 := (RK.Own.lt hG3 q f).1
      omega
    case round =>
      clear HS0 HP0 hO3 hG3 g3 hB3 tS3 HAP
      have hs1w := hB1.size
      obtain ⟨k, Ao, no, co, Ag, ng, cg, st, hkn, rfl, rfl, rfl, rfl, HS, HP, hO, hGn, hap, g, hB, hle⟩ := hrel
      rename World => wo
      by_cases hlt : k < n
      · have hlt' : (k : Int) < (n : Int) := by omega
        have hkk : (0 : Int) ≤ (k : Int) := by omega
        obtain ⟨b, o, cs, t, hA1, hx, hKx, hcx⟩ := hC.get k hlt
        subst hA1
        obtain ⟨X1, xc1, X2, xc2, rfl, x1, x2, x3, x4, hI, hOu⟩ := txK_form hKx
        unfold maxLen at x2 x4
        have hrx : wo.rangeAt b (o + k * 4) [.int .i32 t.ver, .slice X1 t.ins.length xc1, .slice X2 t.outs.length xc2, .int .u32 t.lock] := range_below hB hcx
        have hi4 := info_tx4 (.int .i32 t.ver) (.slice X1 t.ins.length xc1) (.slice X2 t.outs.length xc2) (.int .u32 t.lock)
        obtain ⟨hi6, ho6⟩ := HTS.out t (List.mem_of_getElem? hx)
        have hox := HOKC.out t (List.mem_of_getElem? hx)
        have hee := HEE.out t (List.mem_of_getElem? hx)
        have hxk := txK_okT hKx
        have HLY := Lib.hid (And.intro (layF_le t (fun x hx => (hxk.ins x hx).idl) (encErr_zero hee).1 false) (layF_bytes hxk false))
        obtain ⟨hcv, hz0, hz1, -⟩ := okC_sum hox
        obtain ⟨zo, hzo⟩ : ∃ z, outSum t = z := ⟨_, rfl⟩
        rw [hzo] at hcv hz0 hz1
        have hz1' : zo ≤ 2100000000000000 := hz1
        have HZO := Lib.hid hzo
        have HCV := Lib.hid hcv
        have HXT := Lib.hid hx
        have HF0 := HS.out.f0
        have HF1 : st.fees ≤ 2100000000000000 := HS.out.f1
        obtain ⟨n1, hn1⟩ : ∃ n1, t.ins.length = n1 := ⟨_, rfl⟩
        obtain ⟨n2, hn2⟩ : ∃ n2, t.outs.length = n2 := ⟨_, rfl⟩
        obtain ⟨fe, hfe⟩ : ∃ fe, st.fees = fe := ⟨_, rfl⟩
        rw [hn1] at hi6 hI hrx hi4 hKx
        rw [hn2] at ho6 hOu hrx hi4 hKx
        rw [hfe] at HF0 HF1 ⊢
        have HFE := Lib.hid hfe
        clear hx hcx hox hee hxk hcv hz1 hzo hn1 hn2 hfe
        go_upto_region 10 with (first
          | ((with_reducible refine wpList_at 44 ?_); refine wpList_load_mid rfl 69 (.tmp 43) rfl b (o + k * 4) rfl [.int .i32 t.ver, .slice X1 n1 xc1, .slice X2 n2 xc2, .int .u32 t.lock] _ hrx hUT rfl hi4 ?_))
        refine wp_gen (q := fun wi => wi.heap[wo.heap.size]? = some (.cells [.int .i32 t.ver, .slice X1 n1 xc1, .slice X2 n2 xc2, .int .u32 t.lock].toArray 69) ∧ Below wo.heap.size wo wi) ⟨heap_alloc_new _ _, (Below.refl _ _).alloc (Nat.le_refl _) _⟩ (fun w4 hw => ?_)
        obtain ⟨gT4, hb4⟩ := hw
        have hB4 := below_then hB hB.size hb4
        have hO4 := hO.below hb4
        have hG4 := hGn.below hb4
        have g4 := heap_below hb4 g
        have hle4 := Nat.le_trans hle hb4.size
        have hKx4 := RK.K_below hKx hB4
        clear hrx hb4 hB hO hGn g hle
        go_wp2_with (first | ((with_reducible refine wpList_at 45 ?_); refine wpList_load_row rfl 69 (.tmp 15) rfl wo.heap.size rfl 69 _ _ _ gT4 hUT rfl hi4 ?_))
        refine (txid_calls w4 (hT.below hB4) _ t [.int .i32 t.ver, .slice X1 n1 xc1, .slice X2 n2 xc2, .int .u32 t.lock] hKx4 HLY.out.1 HLY.out.2).mono ?_
        rintro e w5 ⟨rfl, hb5⟩
        have hdx : Dig (idF t) := idF_dig t
        obtain ⟨dx, hdx0⟩ : ∃ d, dblF (layF t false) = d := ⟨_, rfl⟩
        have HDX : Hid (idF t = dx) := Lib.hid hdx0
        rw [HDX.out] at hdx
        rw [hdx0]
        have hB5 := below_then hB4 hB4.size hb5
        have hO5 := hO4.below hb5
        have hG5 := hG4.below hb5
        have g5 := heap_below hb5 g4
        have gT5 := heap_below hb5 gT4
        have hle5 := Nat.le_trans hle4 hb5.size
        clear hdx0 hb5 hB4 hO4 hG4 g4 gT4 hle4 hKx4
        go_upto_region 11 with (first
          | ((with_reducible refine wpList_atS 16 ?_); refine wpList_store_any rfl 25 (.tmp 16) (.tmp 46) rfl w5.heap.size (nums .u8 dx).toArray rfl rfl 25 (nums .u8 zeros32).toArray (heap_alloc_new _ _) (info_h dx hdx.1) (size_h dx hdx.1) (nums_all _ _) ?_; intro w6 gI6 ht6))
        have hb6 : Below w5.heap.size w5 w6 := ht6.below ((Below.refl _ _).alloc (Nat.le_refl _) _) (Nat.le_refl _)
        have hB6 := below_then hB5 hB5.size hb6
        have hO6 := hO5.below hb6
        have hG6 := hG5.below hb6
        have g6 := heap_below hb6 g5
        have gT6 := heap_below hb6 gT5
        have hle6 := Nat.le_trans hle5 hb6.size
        have hlI := heap_lt gI6
        have hlT := heap_lt gT6
        have hAl6 : mkK.C S2 w6 Aa na all := RK.C.below hA hB6
        have HI0 : Hid (idIn all dx = idIn (all.drop 0) dx) := Lib.hid rfl
        clear hb6 hB5 hO5 hG5 g5 gT5 hle5 ht6
        go_wp2
        go_loopw [49] (fun v49 wr => ∃ i : Nat, i ≤ na ∧ v49 = .int .i64 i ∧ Hid (idIn all dx = idIn (all.drop i) dx) ∧ Below w6.heap.size w6 wr) (fun v _ => na - (intOf v).toNat)
        case atStart => exact ⟨0, by omega, rfl, HI0, Below.refl _ _⟩
        case round =>
          clear HI0
          obtain ⟨i, hi, rfl, HI, hb⟩ := hrel
          by_cases hil : i < na
          · have hil' : (i : Int) < (na : Int) := by omega
            have hii : (0 : Int) ≤ (i : Int) := by omega
            obtain ⟨b3, o3, cs, x, hA3, hx, ⟨rfl, hxk⟩, hc⟩ := (RK.C.below hAl6 hb).get i hil
            have hr : wr.rangeAt b3 (o3 + i * 68) (mkCells x) := hc
            have i1 := info_rw hxk
            have i2 := info_rwA hxk
            have gI := heap_below hb gI6
            have HS2 : Hid (idIn all dx = (x.1.1 == dx || idIn (all.drop (i + 1)) dx)) := Lib.hid (by rw [HI.out, idIn_step hx])
            have hBE := below_then hB6 hB6.size hb
            subst hA3
            clear hc hx HI
            go_upto_region 14 with (first
              | ((with_reducible refine wpList_at 52 ?_); refine wpList_load_mid rfl 126 (.tmp 51) rfl b3 (o3 + i * 68) rfl (mkCells x) _ hr hUR rfl i1 ?_)
              | ((with_reducible refine wpList_atS 18 ?_); refine wpList_store_any rfl 126 (.tmp 18) (.tmp 52) rfl wr.heap.size (mkCells x).toArray rfl rfl 126 (mkCells mk0).toArray (heap_alloc_new _ _) i2 (size_mk mk0_ok hxk) (mkCells_all _) ?_; intro wx gx htx))
            have hbx : Below wr.heap.size wr wx := htx.below ((Below.refl _ _).alloc (Nat.le_refl _) _) (Nat.le_refl _)
            have hb7 := below_then hb hb.size hbx
            have hBE7 := below_then hBE hBE.size hbx
            have r1 := range_pt_id (range_mk_pt (range_block (xs := mkCells x) gx))
            have gI7 := heap_below hbx gI
            have r2 := range_block (xs := nums .u8 dx) gI7
            have hid1 := info_hh x.1.1 hxk.1.1.1
            have hid2 := info_hh dx hdx.1
            clear gx htx hbx hb hr gI hBE
            cases hc : x.1.1 == dx with
            | true =>
              have HF : Hid (lawF h ts ht all = .error 23) := Lib.hid (by
                rw [HP.out, lwTxs_step HXT.out, lwTx_twice (by rw [HDX.out, HS2.out, hc]; rfl)])
              have hNE : ∀ W, (Op.equalIn 10000 25 (.agg (nums .u8 x.1.1).toArray) (.agg (nums .u8 dx).toArray)).run Tryd.prog W = .ok true W := fun W => by
                rw [run_equalIn_nums (P := Tryd.prog) W 9998 25 5 32 .u8 .u8 Tryd.underlying25 Tryd.underlying5 info_u8 x.1.1 dx hxk.1.1.1 hdx.1, hc]
              clear hc HS2
              go_wp2_with (first
                | ((with_reducible refine wpList_at 55 ?_); refine wpList_load_mid rfl 25 (.tmp 54) rfl wr.heap.size 0 rfl (nums .u8 x.1.1) _ r1 hUH rfl hid1 ?_)
                | ((with_reducible refine wpList_at 56 ?_); refine wpList_load_mid rfl 25 (.tmp 16) rfl w5.heap.size 0 rfl (nums .u8 dx) _ r2 hUH rfl hid2 ?_))
              exact bodyPost_ret (results_tmp4 rfl _ _ _) rfl (LPlanPost.err hBE7 HF.out rfl)
            | false =>
              have HI2 : Hid (idIn all dx = idIn (all.drop (i + 1)) dx) := Lib.hid (by rw [HS2.out, hc]; rfl)
              have hNE : ∀ W, (Op.equalIn 10000 25 (.agg (nums .u8 x.1.1).toArray) (.agg (nums .u8 dx).toArray)).run Tryd.prog W = .ok false W := fun W => by
                rw [run_equalIn_nums (P := Tryd.prog) W 9998 25 5 32 .u8 .u8 Tryd.underlying25 Tryd.underlying5 info_u8 x.1.1 dx hxk.1.1.1 hdx.1, hc]
              clear hc HS2
              go_wp2_with (first
                | ((with_reducible refine wpList_at 55 ?_); refine wpList_load_mid rfl 25 (.tmp 54) rfl wr.heap.size 0 rfl (nums .u8 x.1.1) _ r1 hUH rfl hid1 ?_)
                | ((with_reducible refine wpList_at 56 ?_); refine wpList_load_mid rfl 25 (.tmp 16) rfl w5.heap.size 0 rfl (nums .u8 dx) _ r2 hUH rfl hid2 ?_))
              go_roundw
              case rel => exact ⟨i + 1, by omega, by go_num, HI2, hb7⟩
              case measure => simp [intOf]; omega
          · have hil' : ¬ (i : Int) < (na : Int) := by omega
            have HIF : Hid (idIn all dx = false) := Lib.hid (by rw [HI.out, List.drop_eq_nil_of_le (by rw [HNA.out]; omega)]; rfl)
            rename World => w7
            have hM7 : LwM w w1.heap.size w.heap.size wo.heap.size w5.heap.size (blkCells h (some ⟨b, o, none⟩) n c).toArray [.int .i32 t.ver, .slice X1 n1 xc1, .slice X2 n2 xc2, .int .u32 t.lock].toArray (nums .u8 dx).toArray st.out st.gone Ao no co Ag ng cg w7 :=
              ⟨hO6.below hb, hG6.below hb, hap, heap_below hb g6, ⟨heap_below hb gT6, heap_below hb gI6⟩, below_then hB6 hB6.size hb, Nat.le_trans hle6 hb.size⟩
            have tX1 : w7.cell? ⟨wo.heap.size, 1, none⟩ = some (.slice X1 n1 xc1) := blk_cell hM7.two.1 rfl
            clear HI hb hB6 hO6 hG6 g6 gT6 gI6 hAl6
            go_upto_block 4 with fail
            refine lw_ins w w7 w1.heap.size w.heap.size wo.heap.size w5.heap.size k na ca (blkCells h (some ⟨b, o, none⟩) n c).toArray [.int .i32 t.ver, .slice X1 n1 xc1, .slice X2 n2 xc2, .int .u32 t.lock].toArray (nums .u8 dx).toArray Aa hs1w S X1 n1 xc1 t.ins hi6 hI st.out st.gone Ao Ag no co ng cg fe (6 * k) (na + 6 * k) (by omega) (by omega) (by rw [← HFE.out]; exact HS.out) hM7 _ ?_ ?_
            · intro y0_ y1_ y2_ y3_ y4_ y5_ y6_ y7_ y8_ y9_ y10_ y11_ y12_ y13_ y14_ y15_ y16_ y17_ y18_ y19_ y20_ y21_ y22_ y23_ y24_ y25_ y26_ y27_ y28_ y29_ y30_ y31_ y32_ y33_ y34_ y35_ y36_ y37_ y38_ y39_ y40_ y41_ y42_ y43_ y44_ y45_ y46_ y47_ out2 gone2 s Ao2 no2 co2 Ag2 ng2 cg2 w8 hok8 hM8 hOK8 hs0 hs1
              have HP3 : Hid (lawF h ts ht all = match (if 0 < k ∧ s < zo then .error 24 else if 0 < k ∧ topM < fe + (s - zo) then .error 24 else .ok ⟨out2 ++ mkOuts dx ht k 0 t.outs, gone2, if 0 < k then fe + (s - zo) else fe⟩ : Except Int LwS) with
                  | .error e => .error e
                  | .ok st' => lwTxs ht all (k + 1) (ts.drop (k + 1)) st') := Lib.hid (by
                rw [HP.out, lwTxs_step HXT.out, lwTx_of (by rw [HDX.out]; exact HIF.out), hok8, HFE.out, HDX.out, HZO.out]
                try rfl)
              have hs1 : s ≤ 2100000000000000 := hs1
              have hol2 : out2.length ≤ 2000 := by have := hOK8.out; simp only at this; omega
              have HNX : Hid (∀ f : Int, 0 ≤ f → f ≤ topM → LwOk (6 * (k + 1)) (na + 6 * (k + 1)) ⟨out2 ++ mkOuts dx ht k 0 t.outs, gone2, f⟩) := Lib.hid (fun f h1 h2 => hOK8.next ht hi6 (HTS.out t (List.mem_of_getElem? HXT.out)).2 (HOKC.out t (List.mem_of_getElem? HXT.out)) h1 h2 dx)
              have hKx8 := RK.K_below hKx hM8.bel
              have gT8 := hM8.two.1
              clear hok8 hOK8 hM7 tX1 hap
              go_wp2_with (first | ((with_reducible refine wpList_at 106 ?_); refine wpList_load_row rfl 69 (.tmp 15) rfl wo.heap.size rfl 69 _ _ _ gT8 hUT rfl hi4 ?_))
              refine (coins_calls w8 S t [.int .i32 t.ver, .slice X1 n1 xc1, .slice X2 n2 xc2, .int .u32 t.lock] hKx8).mono ?_
              rintro e w9 ⟨rfl, hb9⟩
              rw [HCV.out]
              have hM9 := hM8.below hb9
              have tX2 : w9.cell? ⟨wo.heap.size, 2, none⟩ = some (.slice X2 n2 xc2) := blk_cell hM9.two.1 rfl
              have hBE := hM9.bel
              clear hM8 gT8 hb9 hKx8
              by_cases hk0 : k = 0
              · have hkp : ¬ (0 : Int) < (k : Int) := by omega
                have HP4 : Hid (lawF h ts ht all = lwTxs ht all (k + 1) (ts.drop (k + 1)) ⟨out2 ++ mkOuts dx ht k 0 t.outs, gone2, fe⟩) := Lib.hid (by
                  rw [HP3.out, if_neg (by omega), if_neg (by omega), if_neg (by omega)])
                clear hk0 hBE
                go_upto_block 6 with fail
                refine lw_outs w w9 hT w1.heap.size w.heap.size wo.heap.size w5.heap.size k ht dx hdx (blkCells h (some ⟨b, o, none⟩) n c).toArray [.int .i32 t.ver, .slice X1 n1 xc1, .slice X2 n2 xc2, .int .u32 t.lock].toArray hs1w S X2 n2 xc2 t.outs ho6 hOu out2 gone2 Ao2 Ag2 no2 co2 ng2 cg2 hol2 hM9 _ ?_
                intro z0_ z1_ z2_ z3_ z4_ z5_ z6_ z7_ z8_ z9_ z10_ z11_ z12_ z13_ z14_ z15_ z16_ z17_ z18_ z19_ z20_ z21_ z22_ z23_ Ao3 no3 co3 w10 hM10
                clear hM9
                go_wp2
                go_roundw
                case rel => exact ⟨k + 1, Ao3, no3, co3, Ag2, ng2, cg2, ⟨out2 ++ mkOuts dx ht k 0 t.outs, gone2, fe⟩, by omega, by go_num, rfl, rfl, rfl, Lib.hid (HNX.out _ HF0 HF1), HP4, hM10.rOut, hM10.rGone, hM10.ap, hM10.blk, hM10.bel, hM10.le⟩
                case measure => simp [intOf]; omega
              · have hkp : (0 : Int) < (k : Int) := by omega
                have hkp' : 0 < k := by omega
                clear hk0
                by_cases hzs : s < zo
                · have HF : Hid (lawF h ts ht all = .error 24) := Lib.hid (by rw [HP3.out, if_pos ⟨hkp', hzs⟩])
                  clear hM9 tX2
                  go_wp2
                  exact bodyPost_ret (results_tmp4 rfl _ _ _) rfl (LPlanPost.err hBE HF.out rfl)
                · have hd0 : 0 ≤ s - zo := by omega
                  have hd1 : s - zo ≤ 2100000000000000 := by omega
                  have HP3' : Hid (lawF h ts ht all = match (if topM < fe + (s - zo) then .error 24 else .ok ⟨out2 ++ mkOuts dx ht k 0 t.outs, gone2, fe + (s - zo)⟩ : Except Int LwS) with
                      | .error e => .error e
                      | .ok st' => lwTxs ht all (k + 1) (ts.drop (k + 1)) st') := Lib.hid (by
                    rw [HP3.out, if_neg (by omega), if_pos hkp']
                    by_cases ht' : topM < fe + (s - zo)
                    · rw [if_pos ⟨hkp', ht'⟩, if_pos ht']
                    · rw [if_neg (fun h => ht' h.2), if_neg ht'])
                  by_cases htop : 2100000000000000 < fe + (s - zo)
                  · have HF : Hid (lawF h ts ht all = .error 24) := Lib.hid (by rw [HP3'.out, if_pos (show topM < fe + (s - zo) from htop)])
                    clear hM9 tX2
                    go_wp2
                    exact bodyPost_ret (results_tmp4 rfl _ _ _) rfl (LPlanPost.err hBE HF.out rfl)
                  · have HP4 : Hid (lawF h ts ht all = lwTxs ht all (k + 1) (ts.drop (k + 1)) ⟨out2 ++ mkOuts dx ht k 0 t.outs, gone2, fe + (s - zo)⟩) := Lib.hid (by rw [HP3'.out, if_neg (show ¬ topM < fe + (s - zo) from htop)])
                    have hg0 : 0 ≤ fe + (s - zo) := by omega
                    have hg1 : fe + (s - zo) ≤ 2100000000000000 := by omega
                    clear hBE
                    go_upto_block 6 with fail
                    refine lw_outs w w9 hT w1.heap.size w.heap.size wo.heap.size w5.heap.size k ht dx hdx (blkCells h (some ⟨b, o, none⟩) n c).toArray [.int .i32 t.ver, .slice X1 n1 xc1, .slice X2 n2 xc2, .int .u32 t.lock].toArray hs1w S X2 n2 xc2 t.outs ho6 hOu out2 gone2 Ao2 Ag2 no2 co2 ng2 cg2 hol2 hM9 _ ?_
                    intro z0_ z1_ z2_ z3_ z4_ z5_ z6_ z7_ z8_ z9_ z10_ z11_ z12_ z13_ z14_ z15_ z16_ z17_ z18_ z19_ z20_ z21_ z22_ z23_ Ao3 no3 co3 w10 hM10
                    clear hM9
                    go_wp2
                    go_roundw
                    case rel => exact ⟨k + 1, Ao3, no3, co3, Ag2, ng2, cg2, ⟨out2 ++ mkOuts dx ht k 0 t.outs, gone2, fe + (s - zo)⟩, by omega, by go_num, rfl, rfl, rfl, Lib.hid (HNX.out _ hg0 hg1), HP4, hM10.rOut, hM10.rGone, hM10.ap, hM10.blk, hM10.bel, hM10.le⟩
                    case measure => simp [intOf]; omega
            · intro e0_ e1_ e2_ e3_ e4_ e5_ e6_ e7_ e8_ e9_ e10_ e11_ e12_ e13_ e14_ e15_ e16_ e17_ e18_ e19_ e20_ e21_ e22_ e23_ e24_ e25_ e26_ e27_ e28_ e29_ e30_ e31_ e32_ e33_ e34_ e35_ e36_ e37_ e38_ e39_ e40_ e41_ e42_ e43_ e44_ e45_ e46_ er w8 her hBE
              have HF : Hid (lawF h ts ht all = .error er) := Lib.hid (by rw [HP.out, lwTxs_step HXT.out, lwTx_of (by rw [HDX.out]; exact HIF.out), her])
              exact bodyPost_ret (results_tmp4 rfl _ _ _) rfl (LPlanPost.err hBE HF.out rfl)
      · have hlt' : ¬ (k : Int) < (n : Int) := by omega
        have HE : Hid (lawF h ts ht all = .ok st) := Lib.hid (by rw [HP.out, List.drop_eq_nil_of_le (by rw [hln.out]; omega)]; rfl)
        go_wp2
        refine bodyPost_ret (results_tmp4 rfl _ _ _) rfl ?_
        rw [HE.out]
        obtain rfl := RK.Own.len hO
        obtain rfl := RK.Own.len hGn
        exact ⟨hB, Ao, co, Ag, cg, rfl, hO.base_ (by omega), hGn.base_ (by omega)⟩
  · have hcb : (ce != 0) = true := by rw [bne_iff_ne]; exact hc0
    have HF : Hid (lawF h ts ht all = .error ce) := Lib.hid (by unfold lawF; rw [if_pos (by rw [hce]; exact hc0), hce])
    clear hce hc0
    go_wp2
    exact bodyPost_ret (results_tmp4 rfl _ _ _) rfl (LPlanPost.err hB1 HF.out rfl)
end Go.Proofs.YtjlkakggmfmfiaaDoor
end
