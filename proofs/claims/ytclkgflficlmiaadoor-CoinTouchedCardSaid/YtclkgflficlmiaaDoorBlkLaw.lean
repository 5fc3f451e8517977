/- Blocks: what their cells say; a block's bytes read and laid, in plain terms. -/
import Derived.Test.YtclkgflficlmiaaDoorTxLinesL
import Derived.Test.YtclkgflficlmiaaDoorParse
set_option maxRecDepth 100000
set_option linter.unusedVariables false
namespace Go.Proofs.YtclkgflficlmiaaDoor
open Go Go.RowKit Go.ChangeShapes Go.WideShapes Go.ChangeAt
def encBE : List TTx → Nat → Int
  | [], _ => 0
  | t :: r, L => if encErr t ≠ 0 then encErr t else if 262144 < L + (encF t).length then 6 else encBE r (L + (encF t).length)
def encBErr (ts : List TTx) : Int := if 1024 < ts.length then 3 else encBE ts (80 + (compF ts.length).length)
def encBF (h : Hd) (ts : List TTx) : List Int := hbF h ++ compF ts.length ++ linesF ts
def blkCells (h : Hd) (A : Option Addr) (n c : Nat) : List Value := h.cells ++ [.slice A n c]
theorem blkCells_length {h : Hd} (hk : h.Ok) (A : Option Addr) (n c : Nat) : (blkCells h A n c).length = 69 := by simp [blkCells, Hd.length hk]
theorem blkCells_at {h : Hd} (hk : h.Ok) (A : Option Addr) (n c : Nat) : (blkCells h A n c)[68]? = some (.slice A n c) := by
  unfold blkCells
  rw [List.getElem?_append_right (by rw [Hd.length hk]; exact Nat.le_refl _), Hd.length hk]
  rfl
theorem blkCells_one (h : Hd) (A : Option Addr) (n c : Nat) : ∀ u ∈ blkCells h A n c, u.oneCell' = true := by
  intro u hu
  rcases List.mem_append.1 hu with hu | hu
  · exact Hd.one h u hu
  · rw [List.mem_singleton.1 hu]; rfl
theorem blkCells_all (h : Hd) (A : Option Addr) (n c : Nat) : (blkCells h A n c).toArray.all (·.oneCell') = true := by rw [Array.all_eq_true']; intro u hu; exact blkCells_one h A n c u (by simpa using hu)
theorem info_blk {h : Hd} (hk : h.Ok) (A : Option Addr) (n c : Nat) : (Tryd.prog.info? 49).map (·.size) = some (blkCells h A n c).length := by rw [blkCells_length hk]; kernel_rfl
theorem info_blkA {h : Hd} (hk : h.Ok) (A : Option Addr) (n c : Nat) : (Tryd.prog.info? 49).map (·.size) = some (blkCells h A n c).toArray.size := by rw [List.size_toArray]; exact info_blk hk A n c
structure TBlk where
  head : Hd
  txs : List TTx
def blkK : RK TBlk where
  sz := 69
  K := fun S w x cs => ∃ A n c, cs = blkCells x.head A n c ∧ x.head.Ok ∧ n ≤ c ∧ c ≤ maxLen ∧ txK.C S w A n x.txs
  len := by
    rintro S w x cs ⟨A, n, c, rfl, h, _⟩
    exact blkCells_length h A n c
  one := by
    rintro S w x cs ⟨A, n, c, rfl, h, _⟩
    exact blkCells_one _ A n c
  move := by
    rintro S w w1 x cs hm ⟨A, n, c, h1, h2, h3, h4, h5⟩
    exact ⟨A, n, c, h1, h2, h3, h4, RK.C.move h5 hm⟩
  mono := by
    rintro S S' w x cs hm ⟨A, n, c, h1, h2, h3, h4, h5⟩
    exact ⟨A, n, c, h1, h2, h3, h4, RK.C.mono h5 hm⟩
theorem came_hd : Came Tryd.prog 37 hdP :=
  came_struct Tryd.underlying37 (by kernel_rfl) (cameF_cons rfl (came_int Tryd.underlying21 (by kernel_rfl)) (cameF_cons rfl (came_h32 Tryd.underlying24 Tryd.underlying5 (by kernel_rfl) (by kernel_rfl)) (cameF_cons rfl (came_h32 Tryd.underlying24 Tryd.underlying5 (by kernel_rfl) (by kernel_rfl)) (cameF_cons rfl (came_int Tryd.underlying26 (by kernel_rfl)) (cameF_cons rfl (came_int Tryd.underlying26 (by kernel_rfl)) (cameF_one rfl (came_int Tryd.underlying26 (by kernel_rfl))))))))
theorem blkP_conv (S : Nat → Prop) (w : World) (x : (Int × (List Int × (List Int × (Int × (Int × Int))))) × List TTx) (cs : List Value) (h : (RK.pair hdP (RK.slice txK)).K S w x cs) : ∃ y, blkK.K S w y cs := by
  obtain ⟨c0, c1, rfl, h0, A, n, c, rfl, h1, h2, h3⟩ := h
  obtain ⟨d, rfl, hd⟩ := hdP_cells h0
  exact ⟨⟨d, x.2⟩, A, n, c, rfl, hd, h1, h2, h3⟩
theorem came_blk : Came Tryd.prog 49 blkK :=
  Came.conv (d := RK.pair hdP (RK.slice txK)) (came_struct Tryd.underlying49 (by kernel_rfl) (cameF_cons rfl came_hd (cameF_one rfl (came_slice Tryd.underlying47 (by kernel_rfl) came_tx)))) rfl blkP_conv
/-! ### what can be read lies in the heap -/
theorem RK.C.restr {α : Type} {d : RK α} {S : Nat → Prop} {w : World} {A : Option Addr} {n : Nat} {xs : List α} (hd : ∀ x cs, d.K S w x cs → d.K (fun b => S b ∧ b < w.heap.size) w x cs) (h : d.C S w A n xs) : d.C (fun b => S b ∧ b < w.heap.size) w A n xs := by
  refine ⟨h.1, fun hn => ?_⟩
  obtain ⟨b, o, hA, hS, hb, hc⟩ := h.2 hn
  exact ⟨b, o, hA, ⟨hS, hb⟩, hb, fun i x hx => by obtain ⟨cs, hK, hcs⟩ := hc i x hx; exact ⟨cs, hd x cs hK, hcs⟩⟩
theorem inK_restr {S : Nat → Prop} {w : World} (x : TIn) (cs : List Value) (h : inK.K S w x cs) : inK.K (fun b => S b ∧ b < w.heap.size) w x cs := by
  obtain ⟨A, n, c, h1, h2, h3, h4, h5⟩ := h
  exact ⟨A, n, c, h1, h2, h3, h4, RK.C.restr (fun _ _ h => h) h5⟩
theorem txK_restr {S : Nat → Prop} {w : World} (x : TTx) (cs : List Value) (h : txK.K S w x cs) : txK.K (fun b => S b ∧ b < w.heap.size) w x cs := by
  obtain ⟨A1, n1, c1, A2, n2, c2, h1, h2, h3, h4, h5, h6, h7, h8, h9⟩ := h
  exact ⟨A1, n1, c1, A2, n2, c2, h1, h2, h3, h4, h5, h6, h7, RK.C.restr inK_restr h8, RK.C.restr (fun _ _ h => h) h9⟩
theorem RK.Own.restr {α : Type} {d : RK α} {S : Nat → Prop} {w : World} {base n : Nat} {e : TypeId} {v : Value} {xs : List α} (hd : ∀ x cs, d.K S w x cs → d.K (fun b => S b ∧ b < w.heap.size) w x cs) (h : d.Own S w base e v n xs) : d.Own (fun b => S b ∧ b < w.heap.size) w base e v n xs := by
  obtain ⟨h1, cells, h2, h3⟩ := h
  exact ⟨h1, cells, h2, fun i x hx => by obtain ⟨cs, hK, hcs⟩ := h3 i x hx; exact ⟨cs, hd x cs hK, hcs⟩⟩
/-! ### a line of transactions read -/
/-- A transaction that has bytes. -/
structure FitT (t : TTx) : Prop where
  ok : t.Ok
  err : encErr t = 0
theorem FitT.bounds {t : TTx} (h : FitT t) : Bounds t := (encErr_zero h.err).1
theorem FitT.len {t : TTx} (h : FitT t) : (encF t).length ≤ 65536 := (encErr_zero h.err).2
theorem FitT.bytes {t : TTx} (h : FitT t) : Bytes (encF t) := layF_bytes h.ok _
theorem linesF_fit : ∀ (us : List TTx), (∀ t ∈ us, FitT t) → Bytes (linesF us)
  | [], _ => by intro x hx; simp [linesF] at hx
  | t :: us, h => by
    show Bytes (encF t ++ linesF us)
    exact (h t (by simp)).bytes.append (linesF_fit us (fun x hx => h x (by simp [hx])))
def decTs : Nat → List Int → Option (List TTx × List Int)
  | 0, r => some ([], r)
  | n + 1, r => if decE r = 0 then (decTs n (r.drop (decN r))).map (fun z => (decT r :: z.1, z.2)) else none
theorem decTs_lines : ∀ (ts : List TTx) (more : List Int), (∀ t ∈ ts, FitT t) → decTs ts.length (linesF ts ++ more) = some (ts, more)
  | [], more, _ => by simp [decTs, linesF]
  | t :: ts, more, h => by
    have ht := h t (by simp)
    have hd := dec_enc ht.ok ht.bounds ht.len (linesF ts ++ more)
    have e : linesF (t :: ts) ++ more = encF t ++ (linesF ts ++ more) := by
      show (encF t ++ linesF ts) ++ more = _
      rw [List.append_assoc]
    have ih := decTs_lines ts more (fun x hx => h x (by simp [hx]))
    rw [e, List.length_cons, decTs, if_pos hd.1, hd.2.1, hd.2.2.1, List.drop_left' rfl, ih]
    rfl
theorem decTs_cut : ∀ (ts : List TTx) (n : Nat), (∀ t ∈ ts, FitT t) → n < (linesF ts).length → decTs ts.length ((linesF ts).take n) = none
  | [], n, _, hn => by simp [linesF] at hn
  | t :: ts, n, h, hn => by
    have ht := h t (by simp)
    have e : linesF (t :: ts) = encF t ++ linesF ts := rfl
    rcases Nat.lt_or_ge n (encF t).length with hl | hl
    · have hd := dec_cut ht.ok ht.bounds ht.len n hl
      rw [e, List.take_append_of_le_length (by omega), List.length_cons, decTs, if_neg (by rw [hd]; decide)]
    · have hn' : n - (encF t).length < (linesF ts).length := by rw [e, List.length_append] at hn; omega
      have hd := dec_enc ht.ok ht.bounds ht.len ((linesF ts).take (n - (encF t).length))
      have e2 : (linesF (t :: ts)).take n = encF t ++ (linesF ts).take (n - (encF t).length) := by
        rw [e, List.take_append, List.take_of_length_le hl]
      have ih := decTs_cut ts (n - (encF t).length) (fun x hx => h x (by simp [hx])) hn'
      rw [e2, List.length_cons, decTs, if_pos hd.1, hd.2.1, List.drop_left' rfl, ih]
      rfl
theorem decTs_read : ∀ (n : Nat) (r : List Int) (ts : List TTx) (more : List Int), Bytes r → decTs n r = some (ts, more) → ts.length = n ∧ (∀ t ∈ ts, FitT t) ∧ r = linesF ts ++ more
  | 0, r, ts, more, _, h => by
    simp only [decTs, Option.some.injEq, Prod.mk.injEq] at h
    obtain ⟨rfl, rfl⟩ := h
    exact ⟨rfl, (fun t h => by cases h), rfl⟩
  | n + 1, r, ts, more, hb, h => by
    rw [decTs] at h
    split at h
    · rename_i hE
      obtain ⟨z, hz, he⟩ := Option.map_eq_some_iff.1 h
      simp only [Prod.mk.injEq] at he
      obtain ⟨rfl, rfl⟩ := he
      obtain ⟨h1, h2, h3⟩ := decTs_read n _ z.1 z.2 (hb.drop _) hz
      obtain ⟨d1, d2, d3, d4, d5, d6⟩ := dec_read hb hE
      have herr : encErr (decT r) = 0 := by
        unfold encErr
        rw [if_neg (by rw [checkF_of d1]; decide), if_neg (by show ¬ 65536 < (encF (decT r)).length; omega)]
      refine ⟨by rw [List.length_cons, h1], fun t ht => ?_, ?_⟩
      · rcases List.mem_cons.1 ht with rfl | ht
        · exact ⟨d2, herr⟩
        · exact h2 t ht
      · show r = (encF (decT r) ++ linesF z.1) ++ z.2
        rw [List.append_assoc, ← h3, d4, List.take_append_drop]
    · cases h
theorem linesF_pos : ∀ (ts : List TTx), 0 < ts.length → 4 ≤ (linesF ts).length
  | t :: ts, _ => by
    show 4 ≤ (encF t ++ linesF ts).length
    have := encF_pos t
    rw [List.length_append]
    omega
theorem compF_small (n : Nat) (h : n < 253) : compF n = [(n : Int)] := by unfold compF; rw [if_pos h]
/-! ### a block's bytes read -/
/-- What block.Decode reads, of bytes that are not too many. -/
def decBk (bs : List Int) : Option TBlk :=
  if bs.length < 80 then none
  else if (expF (bs.drop 80)).2.2 ≠ 0 ∨ 1024 < (expF (bs.drop 80)).1 then none
  else match decTs (expF (bs.drop 80)).1.toNat ((bs.drop 80).drop (expF (bs.drop 80)).2.1) with
    | some (ts, []) => some ⟨parseF bs, ts⟩
    | _ => none
theorem encBF_length {h : Hd} (k : h.Ok) (ts : List TTx) : (encBF h ts).length = 80 + (compF ts.length).length + (linesF ts).length := by
  unfold encBF
  rw [List.length_append, List.length_append, hbF_length k]
theorem encBF_bytes {h : Hd} (k : h.Ok) {ts : List TTx} (hf : ∀ t ∈ ts, FitT t) : Bytes (encBF h ts) := ((hbF_bytes k).append (compF_bytes _)).append (linesF_fit ts hf)
theorem encBF_drop {h : Hd} (k : h.Ok) (ts : List TTx) (more : List Int) : (encBF h ts ++ more).drop 80 = compF ts.length ++ (linesF ts ++ more) := by
  unfold encBF
  simp only [List.append_assoc]
  exact List.drop_left' (hbF_length k)
theorem encBF_parse {h : Hd} (k : h.Ok) (ts : List TTx) (more : List Int) : parseF (encBF h ts ++ more) = h := by
  unfold encBF
  simp only [List.append_assoc]
  exact parse_bytes h k _
theorem decBk_of {h : Hd} (k : h.Ok) {ts : List TTx} (hf : ∀ t ∈ ts, FitT t) (hn : ts.length ≤ 1024) (more : List Int) : decBk (encBF h ts ++ more) = if more = [] then some ⟨h, ts⟩ else none := by
  have hx := expF_comp ts.length (by omega) (linesF ts ++ more)
  have hl : ¬ (encBF h ts ++ more).length < 80 := by rw [List.length_append, encBF_length k]; omega
  unfold decBk
  rw [if_neg hl, encBF_drop k, hx, if_neg (by simp only; omega), List.drop_left' rfl]
  simp only [Int.toNat_natCast]
  rw [decTs_lines ts more hf, encBF_parse k]
  cases more with
  | nil => rfl
  | cons x r => rfl
theorem decBk_cut {h : Hd} (k : h.Ok) {ts : List TTx} (hf : ∀ t ∈ ts, FitT t) (hn : ts.length < 253) : decBk ((encBF h ts).take ((encBF h ts).length - 1)) = none := by
  have hc := compF_small ts.length hn
  have hlen := encBF_length k ts
  rw [hc, List.length_singleton] at hlen
  have hb : encBF h ts = hbF h ++ ((ts.length : Int) :: linesF ts) := by
    unfold encBF
    rw [hc, List.append_assoc]
    rfl
  have hh := hbF_length k
  rcases Nat.eq_zero_or_pos ts.length with h0 | h0
  · have : ts = [] := List.eq_nil_of_length_eq_zero h0
    subst this
    have e : (encBF h []).take ((encBF h []).length - 1) = hbF h := by
      rw [hlen, hb]
      exact List.take_left' (by rw [hh]; rfl)
    rw [e]
    unfold decBk
    rw [if_neg (by omega), List.drop_of_length_le (by omega)]
    rfl
  · have hp := linesF_pos ts h0
    have e : (encBF h ts).take ((encBF h ts).length - 1) = hbF h ++ ((ts.length : Int) :: (linesF ts).take ((linesF ts).length - 1)) := by
      rw [hlen, hb, List.take_append, List.take_of_length_le (by omega), hh, show 80 + 1 + (linesF ts).length - 1 - 80 = ((linesF ts).length - 1) + 1 by omega, List.take_succ_cons]
    have hx := expF_comp ts.length (by omega) ((linesF ts).take ((linesF ts).length - 1))
    rw [hc, List.length_singleton] at hx
    have hd : (hbF h ++ ((ts.length : Int) :: (linesF ts).take ((linesF ts).length - 1))).drop 80 = [(ts.length : Int)] ++ (linesF ts).take ((linesF ts).length - 1) := List.drop_left' hh
    rw [e]
    unfold decBk
    rw [if_neg (by rw [List.length_append, hh]; omega), hd, hx, if_neg (by simp only; omega)]
    simp only [Int.toNat_natCast, List.singleton_append, List.drop_succ_cons, List.drop_zero]
    rw [decTs_cut ts _ hf (by omega)]
theorem hb_parse {bs : List Int} (hb : Bytes bs) (hl : 80 ≤ bs.length) : hbF (parseF bs) = bs.take 80 := by
  have l4 : ∀ i, i + 4 ≤ bs.length → ((bs.drop i).take 4).length = 4 := fun i hi => by rw [List.length_take, List.length_drop]; omega
  have b4 : ∀ i, Bytes ((bs.drop i).take 4) := fun i => (hb.drop i).take 4
  have h0 : leF 4 (IntKind.i32.wrap (ofLE (bs.take 4)) % 4294967296).toNat = bs.take 4 := ver_back (hb.take 4) (by rw [List.length_take]; omega)
  unfold hbF parseF
  simp only
  rw [h0, le4_back (b4 68) (l4 68 (by omega)), le4_back (b4 72) (l4 72 (by omega)), le4_back (b4 76) (l4 76 (by omega))]
  have t1 : bs.take 36 = bs.take 4 ++ (bs.drop 4).take 32 := by rw [show (36 : Nat) = 4 + 32 from rfl, List.take_add]
  have t2 : bs.take 68 = bs.take 36 ++ (bs.drop 36).take 32 := by rw [show (68 : Nat) = 36 + 32 from rfl, List.take_add]
  have t3 : bs.take 72 = bs.take 68 ++ (bs.drop 68).take 4 := by rw [show (72 : Nat) = 68 + 4 from rfl, List.take_add]
  have t4 : bs.take 76 = bs.take 72 ++ (bs.drop 72).take 4 := by rw [show (76 : Nat) = 72 + 4 from rfl, List.take_add]
  have t5 : bs.take 80 = bs.take 76 ++ (bs.drop 76).take 4 := by rw [show (80 : Nat) = 76 + 4 from rfl, List.take_add]
  rw [t5, t4, t3, t2, t1]
theorem encBE_fit : ∀ (ts : List TTx) (L : Nat), (∀ t ∈ ts, FitT t) → L + (linesF ts).length ≤ 262144 → encBE ts L = 0
  | [], _, _, _ => rfl
  | t :: ts, L, h, hl => by
    have e : (linesF (t :: ts)).length = (encF t).length + (linesF ts).length := by
      show (encF t ++ linesF ts).length = _
      rw [List.length_append]
    rw [e] at hl
    rw [encBE, if_neg (by rw [(h t (by simp)).err]; decide), if_neg (by omega)]
    exact encBE_fit ts _ (fun x hx => h x (by simp [hx])) (by omega)
theorem encBE_zero : ∀ (ts : List TTx) (L : Nat), L ≤ 262144 → encBE ts L = 0 → (∀ t ∈ ts, encErr t = 0) ∧ L + (linesF ts).length ≤ 262144
  | [], L, hL, _ => ⟨(fun t h => nomatch h), by simpa [linesF] using hL⟩
  | t :: ts, L, hL, h => by
    rw [encBE] at h
    split at h
    · rename_i h1
      exact absurd h h1
    · rename_i h1
      split at h
      · cases h
      · rename_i h2
        obtain ⟨h3, h4⟩ := encBE_zero ts _ (by omega) h
        refine ⟨fun x hx => ?_, ?_⟩
        · rcases List.mem_cons.1 hx with rfl | hx
          · exact Decidable.byContradiction h1
          · exact h3 x hx
        · show L + (encF t ++ linesF ts).length ≤ _
          rw [List.length_append]
          omega
theorem encBErr_zero {ts : List TTx} (h : encBErr ts = 0) : ts.length ≤ 1024 ∧ (∀ t ∈ ts, encErr t = 0) ∧ 80 + (compF ts.length).length + (linesF ts).length ≤ 262144 := by
  unfold encBErr at h
  split at h
  · cases h
  · have := compF_le ts.length
    obtain ⟨h1, h2⟩ := encBE_zero ts _ (by omega) h
    exact ⟨by omega, h1, h2⟩
/-- What is read is laid just so. -/
theorem decBk_read {bs : List Int} (hb : Bytes bs) (hl : bs.length ≤ 262144) {x : TBlk} (h : decBk bs = some x) : x.head.Ok ∧ (∀ t ∈ x.txs, FitT t) ∧ x.txs.length ≤ 1024 ∧ encBErr x.txs = 0 ∧ encBF x.head x.txs = bs := by
  unfold decBk at h
  split at h
  · cases h
  · rename_i h1
    split at h
    · cases h
    · rename_i h2
      have h3 : (expF (bs.drop 80)).2.2 = 0 ∧ (expF (bs.drop 80)).1 ≤ 1024 := by
        refine ⟨Decidable.byContradiction fun h => h2 (.inl h), ?_⟩
        exact Int.not_lt.1 fun h => h2 (.inr h)
      have hr := expF_range (hb.drop 80)
      have hi := expF_inv (x := (expF (bs.drop 80)).1) (k := (expF (bs.drop 80)).2.1) (hb.drop 80) (by rw [← h3.1])
      split at h
      · rename_i ts hd
        obtain rfl := Option.some.inj h
        obtain ⟨d1, d2, d3⟩ := decTs_read _ _ _ _ ((hb.drop 80).drop _) hd
        rw [List.append_nil] at d3
        have hE : encBF (parseF bs) ts = bs := by
          unfold encBF
          rw [hb_parse hb (by omega), d1, ← d3, List.append_assoc, ← hi, List.take_append_drop]
        have hk := parseF_ok bs hb (by omega)
        have hlen := encBF_length hk ts
        rw [hE] at hlen
        refine ⟨hk, d2, by show ts.length ≤ 1024; omega, ?_, hE⟩
        show encBErr ts = 0
        unfold encBErr
        rw [if_neg (by omega)]
        exact encBE_fit ts _ d2 (by omega)
      · cases h
end Go.Proofs.YtclkgflficlmiaaDoor
