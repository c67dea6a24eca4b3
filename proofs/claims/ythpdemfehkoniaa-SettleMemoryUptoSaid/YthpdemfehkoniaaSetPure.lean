/- What masks, Reach and the comparisons of the layer settle come to: plain lists, no memory. No condition but the lengths'. -/
import Derived.Test.YthpdemfehkoniaaSetRef
import Derived.Test.YthpdemfehkoniaaSet3
import Derived.Laws.BitsLemmas
namespace Go.Proofs.Ythpdemfehkoniaa.PSet
open Go.RowKit Go.Proofs.YthpdemfehkoniaaW.PrintWords Go.Proofs.YthpdemfehkoniaaW.PrintLast Go.Proofs.YthpdemfehkoniaaW.PrintMore
set_option linter.unusedVariables false

theorem wrap_next {i n : Nat} (h : i < n) (hn : n ≤ 9000000000000000000) : wrap64 ((i : Int) + 1) = ((i + 1 : Nat) : Int) := by unfold wrap64; omega

/-! the comparisons of what is the same -/
theorem sameInts_l0 (l : List Int) (hl : l.length ≤ 9000000000000000000) : ∀ (d k : Nat) (i : Nat), l.length - i = d → i ≤ l.length → d < k → barrowlaw26_sameInts.l0 k l l (l.length : Int) (i : Int) = some true := by
  intro d
  induction d with
  | zero =>
    intro k i h1 h2 h3
    obtain ⟨k, rfl⟩ : ∃ m, k = m + 1 := ⟨k - 1, by omega⟩
    simp only [barrowlaw26_sameInts.l0]; rw [if_neg (by omega)]
  | succ d ih =>
    intro k i h1 h2 h3
    obtain ⟨k, rfl⟩ : ∃ m, k = m + 1 := ⟨k - 1, by omega⟩
    simp only [barrowlaw26_sameInts.l0]
    rw [if_pos (by omega), if_pos (by omega), if_pos (by omega), if_pos (by omega), if_pos trivial, wrap_next (by omega) hl]
    exact ih k (i + 1) (by omega) (by omega) (by omega)
theorem sameInts_self (l : List Int) (hl : l.length ≤ 9000000000000000000) (k : Nat) (hk : l.length < k) : barrowlaw26_sameInts.f k l l = some true := by
  unfold barrowlaw26_sameInts.f
  rw [if_pos rfl]
  exact sameInts_l0 l hl l.length _ 0 (by omega) (by omega) hk
theorem samePair_l0 (l : List S26) (hl : l.length ≤ 9000000000000000000) : ∀ (d k : Nat) (i : Nat), l.length - i = d → i ≤ l.length → d < k → barrowlaw26_samePair.l0 k l l (l.length : Int) (i : Int) = some true := by
  intro d
  induction d with
  | zero =>
    intro k i h1 h2 h3
    obtain ⟨k, rfl⟩ : ∃ m, k = m + 1 := ⟨k - 1, by omega⟩
    simp only [barrowlaw26_samePair.l0]; rw [if_neg (by omega)]
  | succ d ih =>
    intro k i h1 h2 h3
    obtain ⟨k, rfl⟩ : ∃ m, k = m + 1 := ⟨k - 1, by omega⟩
    simp only [barrowlaw26_samePair.l0]
    rw [if_pos (by omega), if_pos (by omega), if_pos (by omega), if_pos (by omega)]
    simp only [beq_self_eq_true, Bool.not_true, Bool.or_self, Bool.false_eq_true, if_false]
    rw [wrap_next (by omega) hl]
    exact ih k (i + 1) (by omega) (by omega) (by omega)
theorem samePair_self (l : List S26) (hl : l.length ≤ 9000000000000000000) : barrowlaw26_samePair.f (l.length + 1) l l = some true := by
  unfold barrowlaw26_samePair.f
  rw [if_pos rfl]
  exact samePair_l0 l hl l.length _ 0 (by omega) (by omega) (by omega)
theorem copyPairs_self (l : List S26) (hl : l.length < 8796093022208) : barrowlaw26_copyPairs.f l = some l := by
  unfold barrowlaw26_copyPairs.f
  simp only [Option.bind_some, List.length_nil, List.nil_append]
  rw [if_pos (by omega)]
theorem sameLists_l0 (l : List (List Int)) (B : Nat) (hB : ∀ x ∈ l, x.length ≤ B) (hB' : B ≤ 9000000000000000000) (hl : l.length ≤ 9000000000000000000) : ∀ (d k : Nat) (i : Nat), l.length - i = d → i ≤ l.length → d + B + 1 < k → barrowlaw26_sameLists.l0 k l l (l.length : Int) (i : Int) = some true := by
  intro d
  induction d with
  | zero =>
    intro k i h1 h2 h3
    obtain ⟨k, rfl⟩ : ∃ m, k = m + 1 := ⟨k - 1, by omega⟩
    simp only [barrowlaw26_sameLists.l0]; rw [if_neg (by omega)]
  | succ d ih =>
    intro k i h1 h2 h3
    obtain ⟨k, rfl⟩ : ∃ m, k = m + 1 := ⟨k - 1, by omega⟩
    have hil : i < l.length := by omega
    have hx : (rd_L2 l (i : Int)).length ≤ B := by
      unfold rd_L2
      rw [Int.toNat_natCast, List.getD_eq_getElem?_getD, List.getElem?_eq_getElem hil]
      exact hB _ (List.getElem_mem hil)
    simp only [barrowlaw26_sameLists.l0]
    rw [if_pos (by omega), if_pos (by omega), if_pos (by omega), if_pos (by omega), sameInts_self _ (by omega) k (by omega)]
    simp only [Option.bind_some, if_true]
    rw [wrap_next (by omega) hl]
    exact ih k (i + 1) (by omega) (by omega) (by omega)
theorem sameLists_self (l : List (List Int)) (B : Nat) (hB : ∀ x ∈ l, x.length ≤ B) (hB' : B ≤ 9000000000000000000) (hl : l.length ≤ 9000000000000000000) : barrowlaw26_sameLists.f (l.length + B + 2) l l = some true := by
  unfold barrowlaw26_sameLists.f
  rw [if_pos rfl]
  exact sameLists_l0 l B hB hB' hl l.length _ 0 (by omega) (by omega) (by omega)

/-! the pairs, as the document has them -/
def toRef (p : S26) : S60 := ⟨p.f0, p.f1⟩
theorem refPairs_l0 (l : List S26) (hl : l.length < 8796093022208) : ∀ (d k : Nat) (i : Nat), l.length - i = d → i ≤ l.length → d < k → barrowlaw26_refPairs.l0 k ((l.take i).map toRef) l (l.length : Int) (i : Int) = some (l.map toRef) := by
  intro d
  induction d with
  | zero =>
    intro k i h1 h2 h3
    obtain ⟨k, rfl⟩ : ∃ m, k = m + 1 := ⟨k - 1, by omega⟩
    simp only [barrowlaw26_refPairs.l0]; rw [if_neg (by omega), List.take_of_length_le (by omega)]
  | succ d ih =>
    intro k i h1 h2 h3
    obtain ⟨k, rfl⟩ : ∃ m, k = m + 1 := ⟨k - 1, by omega⟩
    have hil : i < l.length := by omega
    simp only [barrowlaw26_refPairs.l0]
    rw [if_pos (by omega), if_pos (by omega), if_pos (by omega), if_pos (by rw [List.length_map, List.length_take]; omega), wrap_next hil (by omega)]
    have e : (l.take i).map toRef ++ [(⟨(rd_T26 l (i : Int)).f0, (rd_T26 l (i : Int)).f1⟩ : S60)] = (l.take (i + 1)).map toRef := by
      rw [List.take_succ_eq_append_getElem hil, List.map_append, List.map_singleton]
      simp [rd_T26, toRef, List.getD_eq_getElem?_getD, List.getElem?_eq_getElem hil]
    rw [e]
    exact ih k (i + 1) (by omega) (by omega) (by omega)
theorem refPairs_eq (l : List S26) (hl : l.length < 8796093022208) : barrowlaw26_refPairs.f (l.length + 1) l = some (l.map toRef) := by
  unfold barrowlaw26_refPairs.f
  exact refPairs_l0 l hl l.length _ 0 (by omega) (by omega) (by omega)

/-! masks -/
def ms0 (n : Nat) : List Nat := (List.range n).map (2 ^ ·)
def castL (l : List Nat) : List Int := l.map Int.ofNat
def inN (n : Int) (p : S26) : Bool := decide (0 ≤ p.f0) && decide (p.f0 < n) && decide (0 ≤ p.f1) && decide (p.f1 < n)
def msStep (n : Int) (ms : List Nat) (p : S26) : List Nat := if inN n p = true then ms.set p.f1.toNat (ms.getD p.f1.toNat 0 ||| ms.getD p.f0.toNat 0) else ms
theorem shl_one : ∀ r : Nat, r < 16 → shl .u32 1 (r : Int) = ((2 ^ r : Nat) : Int) := by decide
theorem castL_len (l : List Nat) : (castL l).length = l.length := by simp [castL]
theorem ms0_len (n : Nat) : (ms0 n).length = n := by simp [ms0]
theorem ms0_succ (n : Nat) : ms0 (n + 1) = ms0 n ++ [2 ^ n] := by simp [ms0, List.range_succ]
theorem masks_l0 (n : Nat) (hn : n ≤ 16) (ps : List S26) (k : Nat) : ∀ (d i : Nat), n - i = d → i ≤ n → settle_masks.l0 (k + d + 1) (n : Int) ps (castL (ms0 i) ++ List.replicate (n - i) 0) (n : Int) (i : Int) = settle_masks.l1 k (n : Int) (castL (ms0 n)) ps (ps.length : Int) 0 := by
  intro d
  induction d with
  | zero =>
    intro i h1 h2
    obtain rfl : i = n := by omega
    simp only [settle_masks.l0]
    rw [if_neg (by omega), Nat.sub_self, List.replicate_zero, List.append_nil]
  | succ d ih =>
    intro i h1 h2
    rw [show k + (d + 1) + 1 = (k + d + 1) + 1 from by omega]
    simp only [settle_masks.l0]
    rw [if_pos (by omega), if_pos (by omega), if_pos (by rw [List.length_append, castL_len, ms0_len, List.length_replicate]; omega), shl_one i (by omega), wrap_next (n := n) (by omega) (by omega)]
    have e : (castL (ms0 i) ++ List.replicate (n - i) 0).set (i : Int).toNat ((2 ^ i : Nat) : Int) = castL (ms0 (i + 1)) ++ List.replicate (n - (i + 1)) 0 := by
      rw [Int.toNat_natCast, show n - i = (n - (i + 1)) + 1 from by omega, List.replicate_succ, List.set_append_right _ _ (by rw [castL_len, ms0_len]; omega), castL_len, ms0_len, Nat.sub_self, List.set_cons_zero, ms0_succ]
      simp [castL]
    rw [e]
    exact ih (i + 1) (by omega) (by omega)
theorem rd_cast (ms : List Nat) (i : Int) : rd (castL ms) i = ((ms.getD i.toNat 0 : Nat) : Int) := by
  unfold rd castL
  rw [List.getD_eq_getElem?_getD, List.getElem?_map, List.getD_eq_getElem?_getD]
  cases ms[i.toNat]? <;> rfl
def Small (ms : List Nat) : Prop := ∀ i, ms.getD i 0 < 2 ^ 16
theorem small_ms0 (n : Nat) (hn : n ≤ 16) : Small (ms0 n) := by
  intro i
  unfold ms0
  rw [List.getD_eq_getElem?_getD, List.getElem?_map]
  by_cases h : i < n
  · rw [List.getElem?_range h]
    exact Nat.pow_lt_pow_right (by decide) (by omega)
  · rw [List.getElem?_eq_none (by simp; omega)]
    decide
theorem getD_set (ms : List Nat) (i j v : Nat) : (ms.set i v).getD j 0 = if i = j ∧ j < ms.length then v else ms.getD j 0 := by
  rw [List.getD_eq_getElem?_getD, List.getD_eq_getElem?_getD, List.getElem?_set]
  by_cases h : i = j
  · subst h
    by_cases hl : i < ms.length
    · simp [hl]
    · simp [hl]
  · simp [h]
theorem msStep_len (n : Int) (ms : List Nat) (p : S26) : (msStep n ms p).length = ms.length := by unfold msStep; split <;> simp
theorem msStep_small (n : Int) (ms : List Nat) (p : S26) (h : Small ms) : Small (msStep n ms p) := by
  unfold msStep
  split
  · intro j
    rw [getD_set]
    split
    · exact Nat.or_lt_two_pow (h _) (h _)
    · exact h j
  · exact h
theorem or_u32 (a b : Nat) (ha : a < 2 ^ 16) (hb : b < 2 ^ 16) : Go.bits .or .u32 (a : Int) (b : Int) = ((a ||| b : Nat) : Int) :=
  (bits_nat .u32 16 (by decide) (fun m h0 h1 => by rw [IntKind.wrap_u32]; omega) a b ha hb).2
theorem masks_l1 (n : Nat) (ps : List S26) (hl : ps.length ≤ 9000000000000000000) : ∀ (d k i : Nat) (ms : List Nat), ms.length = n → Small ms → ps.length - i = d → i ≤ ps.length → d < k →
    settle_masks.l1 k (n : Int) (castL ms) ps (ps.length : Int) (i : Int) = some (castL ((ps.drop i).foldl (msStep (n : Int)) ms)) := by
  intro d
  induction d with
  | zero =>
    intro k i ms hm hs h1 h2 h3
    obtain ⟨k, rfl⟩ : ∃ m, k = m + 1 := ⟨k - 1, by omega⟩
    simp only [settle_masks.l1]
    rw [if_neg (by omega), List.drop_of_length_le (by omega)]
    rfl
  | succ d ih =>
    intro k i ms hm hs h1 h2 h3
    obtain ⟨k, rfl⟩ : ∃ m, k = m + 1 := ⟨k - 1, by omega⟩
    have hil : i < ps.length := by omega
    have hp : rd_T26 ps (i : Int) = ps[i] := by simp [rd_T26, List.getD_eq_getElem?_getD, List.getElem?_eq_getElem hil]
    rw [List.drop_eq_getElem_cons hil, List.foldl_cons, ← hp]
    simp only [settle_masks.l1]
    clear hp
    generalize rd_T26 ps (i : Int) = p
    have ihs := ih k (i + 1) (msStep (n : Int) ms p) (by rw [msStep_len, hm]) (msStep_small _ _ _ hs) (by omega) (by omega) (by omega)
    have hcl : ((castL ms).length : Int) = n := by rw [castL_len, hm]
    rw [if_pos (by omega), if_pos (by omega), if_pos (by omega), wrap_next hil hl, rd_cast, rd_cast, or_u32 _ _ (hs _) (hs _)]
    by_cases a1 : p.f0 ≥ 0
    · by_cases a2 : p.f0 < (n : Int)
      · by_cases a3 : p.f1 ≥ 0
        · by_cases a4 : p.f1 < (n : Int)
          · have e : msStep (n : Int) ms p = ms.set p.f1.toNat (ms.getD p.f1.toNat 0 ||| ms.getD p.f0.toNat 0) := by
              unfold msStep inN
              rw [decide_eq_true a1, decide_eq_true a2, decide_eq_true a3, decide_eq_true a4]; rfl
            have e2 : (castL ms).set p.f1.toNat ((ms.getD p.f1.toNat 0 ||| ms.getD p.f0.toNat 0 : Nat) : Int) = castL (msStep (n : Int) ms p) := by
              rw [e]; unfold castL; rw [List.map_set]; rfl
            rw [if_pos a1, if_pos a2, if_pos a3, if_pos a4, if_pos a3, if_pos (by omega), if_pos a1, if_pos (by omega), e2]
            exact ihs
          · have e : msStep (n : Int) ms p = ms := by unfold msStep inN; rw [decide_eq_false a4]; simp
            rw [if_pos a1, if_pos a2, if_pos a3, if_neg a4]
            rw [e] at ihs ⊢; exact ihs
        · have e : msStep (n : Int) ms p = ms := by unfold msStep inN; rw [decide_eq_false a3]; simp
          rw [if_pos a1, if_pos a2, if_neg a3]
          rw [e] at ihs ⊢; exact ihs
      · have e : msStep (n : Int) ms p = ms := by unfold msStep inN; rw [decide_eq_false a2]; simp
        rw [if_pos a1, if_neg a2]
        rw [e] at ihs ⊢; exact ihs
    · have e : msStep (n : Int) ms p = ms := by unfold msStep inN; rw [decide_eq_false a1]; simp
      rw [if_neg a1]
      rw [e] at ihs ⊢; exact ihs
def msAll (n : Nat) (ps : List S26) : List Nat := ps.foldl (msStep (n : Int)) (ms0 n)
theorem msAll_len (n : Nat) (ps : List S26) : (msAll n ps).length = n := by
  have : ∀ (ps : List S26) (ms : List Nat), (ps.foldl (msStep (n : Int)) ms).length = ms.length := by
    intro ps
    induction ps with
    | nil => intro ms; rfl
    | cons p ps ih => intro ms; simp only [List.foldl_cons, ih, msStep_len]
  unfold msAll; rw [this, ms0_len]
theorem msAll_small (n : Nat) (hn : n ≤ 16) (ps : List S26) : Small (msAll n ps) := by
  have : ∀ (ps : List S26) (ms : List Nat), Small ms → Small (ps.foldl (msStep (n : Int)) ms) := by
    intro ps
    induction ps with
    | nil => intro ms h; exact h
    | cons p ps ih => intro ms h; exact ih _ (msStep_small _ _ _ h)
  exact this ps _ (small_ms0 n hn)
theorem masks_eq (n : Nat) (hn : n ≤ 16) (ps : List S26) (hl : ps.length ≤ 9000000000000000000) (k : Nat) (hk : ps.length + n + 2 ≤ k) : settle_masks.f k (n : Int) ps = some (castL (msAll n ps)) := by
  unfold settle_masks.f
  rw [if_pos (by omega), if_pos (by omega)]
  simp only [Option.bind_some, Int.toNat_natCast, List.length_replicate]
  obtain ⟨k, rfl⟩ : ∃ m, k = m + n + 1 := ⟨k - n - 1, by omega⟩
  have h := masks_l0 n hn ps k n 0 (by omega) (by omega)
  rw [show castL (ms0 0) ++ List.replicate (n - 0) (0 : Int) = List.replicate n 0 from rfl] at h
  refine Eq.trans h ?_
  have h2 := masks_l1 n ps hl ps.length k 0 (ms0 n) (ms0_len n) (small_ms0 n hn) (by omega) (by omega) (by omega)
  rw [List.drop_zero] at h2
  exact h2

/-! Reach -/
def rowOf (n : Nat) (m : Nat) : List Int := ((List.range n).filter fun o => m.testBit o).map Int.ofNat
theorem rowOf_succ (i m : Nat) : rowOf (i + 1) m = if m.testBit i = true then rowOf i m ++ [(i : Int)] else rowOf i m := by
  unfold rowOf
  rw [List.range_succ, List.filter_append, List.map_append]
  by_cases h : m.testBit i = true
  · rw [if_pos h]; simp [h]
  · rw [if_neg h]; simp [h]
theorem rowOf_len (n m : Nat) : (rowOf n m).length ≤ n := by
  unfold rowOf
  rw [List.length_map]
  exact Nat.le_trans (List.length_filter_le _ _) (by simp)
theorem bit_u32 (m o : Nat) (hm : m < 2 ^ 16) (ho : o ≤ 16) : Go.bits .and .u32 (shr .u32 (m : Int) (o : Int)) 1 = if m.testBit o = true then 1 else 0 := by
  have e : shr .u32 (m : Int) (o : Int) = ((m / 2 ^ o : Nat) : Int) := by
    unfold shr
    rw [Nat.min_eq_left (by simp [IntKind.bits]; omega), Int.toNat_natCast]
    simp
  rw [e]
  have h1 : m / 2 ^ o < 2 ^ 16 := Nat.lt_of_le_of_lt (Nat.div_le_self _ _) hm
  have h2 := (bits_nat .u32 16 (by decide) (fun m h0 h1 => by rw [IntKind.wrap_u32]; omega) (m / 2 ^ o) 1 h1 (by decide)).1
  rw [show (1 : Int) = ((1 : Nat) : Int) from rfl, h2, Nat.and_one_is_mod, Nat.testBit_eq_decide_div_mod_eq]
  by_cases h : m / 2 ^ o % 2 = 1
  · rw [h]; simp
  · have : m / 2 ^ o % 2 = 0 := by omega
    rw [this]; simp
theorem reach_l1 (n : Nat) (hn : n ≤ 16) (xs : List Int) (hxs : xs.length = n) (r m : Nat) (hr : r < n) (hm : m < 2 ^ 16) (ys : List Int) (ylen : Int) (out : List (List Int)) (hout : out.length = n) (h0 : out.getD r [] = []) :
    ∀ (d k i : Nat), n - i = d → i ≤ n → d < k → settle_Reach.l1 k xs (out.set r (rowOf i m)) (r : Int) (m : Int) ys ylen (r : Int) (n : Int) (i : Int) = settle_Reach.l0 (k - d - 1) xs (out.set r (rowOf n m)) ys ylen ((r + 1 : Nat) : Int) := by
  intro d
  induction d with
  | zero =>
    intro k i h1 h2 h3
    obtain ⟨k, rfl⟩ : ∃ m, k = m + 1 := ⟨k - 1, by omega⟩
    obtain rfl : i = n := by omega
    simp only [settle_Reach.l1]
    rw [if_neg (by omega), wrap_next (n := i) hr (by omega)]
    rfl
  | succ d ih =>
    intro k i h1 h2 h3
    obtain ⟨k, rfl⟩ : ∃ m, k = m + 1 := ⟨k - 1, by omega⟩
    simp only [settle_Reach.l1]
    rw [if_pos (by omega), if_pos (by omega), bit_u32 m i hm (by omega), wrap_next (n := n) (by omega) (by omega)]
    have ihs := ih k (i + 1) (by omega) (by omega) (by omega)
    rw [show k + 1 - (d + 1) - 1 = k - d - 1 from by omega]
    by_cases hb : m.testBit i = true
    · have e1 : rd_L2 (out.set r (rowOf i m)) (r : Int) = rowOf i m := by
        unfold rd_L2
        rw [Int.toNat_natCast, List.getD_eq_getElem?_getD, List.getElem?_set_self (by omega)]
        rfl
      rw [if_pos hb, if_pos rfl, if_pos (by omega), if_pos (by rw [List.length_set]; omega), e1, if_pos (by have := rowOf_len i m; omega), Int.toNat_natCast, List.set_set]
      rw [rowOf_succ, if_pos hb] at ihs
      exact ihs
    · rw [if_neg hb, if_neg (by decide)]
      rw [rowOf_succ, if_neg hb] at ihs
      exact ihs
theorem reach_l0 (n : Nat) (hn : n ≤ 16) (ms : List Nat) (hm : ms.length = n) (hs : Small ms) : ∀ (d k r : Nat), n - r = d → r ≤ n → d * (n + 2) < k →
    settle_Reach.l0 k (castL ms) ((ms.take r).map (rowOf n) ++ List.replicate (n - r) []) (castL ms) (n : Int) (r : Int) = some (ms.map (rowOf n)) := by
  intro d
  induction d with
  | zero =>
    intro k r h1 h2 h3
    obtain ⟨k, rfl⟩ : ∃ m, k = m + 1 := ⟨k - 1, by omega⟩
    obtain rfl : r = n := by omega
    simp only [settle_Reach.l0]
    rw [if_neg (by omega), Nat.sub_self, List.replicate_zero, List.append_nil, List.take_of_length_le (by omega)]
  | succ d ih =>
    intro k r h1 h2 h3
    have hexp : (d + 1) * (n + 2) = d * (n + 2) + n + 2 := by rw [Nat.add_mul]; omega
    obtain ⟨k, rfl⟩ : ∃ m, k = m + 1 := ⟨k - 1, by omega⟩
    have hr : r < n := by omega
    simp only [settle_Reach.l0]
    rw [if_pos (by omega), if_pos (by omega), if_pos (by rw [castL_len, hm]; omega), rd_cast, castL_len, hm]
    have hA : ((ms.take r).map (rowOf n)).length = r := by rw [List.length_map, List.length_take]; omega
    have hrow : ∀ x : List Int, ((ms.take r).map (rowOf n) ++ List.replicate (n - r) []).set r x = (ms.take r).map (rowOf n) ++ x :: List.replicate (n - (r + 1)) [] := by
      intro x
      rw [show n - r = (n - (r + 1)) + 1 from by omega, List.replicate_succ, List.set_append_right _ _ (by omega), hA, Nat.sub_self, List.set_cons_zero]
    have hg : ((ms.take r).map (rowOf n) ++ List.replicate (n - r) []).getD r [] = [] := by
      rw [List.getD_eq_getElem?_getD, List.getElem?_append_right (by omega), hA, Nat.sub_self, List.getElem?_replicate, if_pos (by omega)]
      rfl
    have h0 : ((ms.take r).map (rowOf n) ++ List.replicate (n - r) []).set r (rowOf 0 (ms.getD r 0)) = (ms.take r).map (rowOf n) ++ List.replicate (n - r) [] := by
      rw [hrow, show n - r = (n - (r + 1)) + 1 from by omega, List.replicate_succ]
      rfl
    have h4 := reach_l1 n hn (castL ms) (by rw [castL_len, hm]) r (ms.getD r 0) hr (hs r) (castL ms) (n : Int) ((ms.take r).map (rowOf n) ++ List.replicate (n - r) []) (by rw [List.length_append, hA, List.length_replicate]; omega) hg n k 0 (by omega) (by omega) (by omega)
    rw [h0] at h4
    rw [Int.toNat_natCast]
    refine Eq.trans h4 ?_
    rw [hrow]
    have e : (ms.take r).map (rowOf n) ++ rowOf n (ms.getD r 0) :: List.replicate (n - (r + 1)) [] = (ms.take (r + 1)).map (rowOf n) ++ List.replicate (n - (r + 1)) [] := by
      rw [List.take_succ_eq_append_getElem (by omega), List.map_append, List.append_assoc]
      simp [List.getD_eq_getElem?_getD, List.getElem?_eq_getElem (show r < ms.length by omega)]
    rw [e]
    exact ih _ (r + 1) (by omega) (by omega) (by omega)
theorem clamp_eq (a : Int) (n : Nat) (h : mx 1 (mn 16 a) = (n : Int)) : settle_clamp.f a = some (n : Int) := by unfold settle_clamp.f; rw [h]
theorem reach_eq (a : Int) (n : Nat) (hc : settle_clamp.f a = some (n : Int)) (hn : n ≤ 16) (ps : List S26) (hl : ps.length ≤ 9000000000000000000) (k : Nat) (hk : ps.length + 400 ≤ k) : settle_Reach.f k a ps = some ((msAll n ps).map (rowOf n)) := by
  unfold settle_Reach.f
  rw [hc]
  simp only [Option.bind_some]
  rw [masks_eq n hn ps hl k (by omega)]
  simp only [Option.bind_some]
  rw [castL_len, msAll_len, if_pos (by omega), if_pos (by omega), Int.toNat_natCast]
  have hq : n * (n + 2) < k := by
    have : n * (n + 2) ≤ 16 * 18 := Nat.mul_le_mul hn (by omega)
    omega
  exact reach_l0 n hn (msAll n ps) (msAll_len n ps) (msAll_small n hn ps) n k 0 (by omega) (by omega) hq

/-! the document's Reach tells the same -/
theorem rdOf_nat (kn : List Bool) (i : Int) : rdOf false kn i = kn.getD i.toNat false := rfl
theorem getD_setB (kn : List Bool) (i j : Nat) (v : Bool) : (kn.set i v).getD j false = if i = j ∧ j < kn.length then v else kn.getD j false := by
  rw [List.getD_eq_getElem?_getD, List.getD_eq_getElem?_getD, List.getElem?_set]
  by_cases h : i = j
  · subst h
    by_cases hl : i < kn.length
    · simp [hl]
    · simp [hl]
  · simp [h]
theorem bits_step (n : Nat) (hn : n ≤ 16) (o : Nat) (ms : List Nat) (kn : List Bool) (hm : ms.length = n) (hk : kn.length = 16) (h : ∀ r, r < n → (ms.getD r 0).testBit o = kn.getD r false) (p : S26) :
    ∀ r, r < n → ((msStep (n : Int) ms p).getD r 0).testBit o = (rStep (n : Int) kn (toRef p)).getD r false := by
  intro r hr
  by_cases hi : inN (n : Int) p = true
  · have hb : 0 ≤ p.f0 ∧ p.f0 < n ∧ 0 ≤ p.f1 ∧ p.f1 < n := by
      unfold inN at hi
      simp only [Bool.and_eq_true, decide_eq_true_eq] at hi
      omega
    have e1 : msStep (n : Int) ms p = ms.set p.f1.toNat (ms.getD p.f1.toNat 0 ||| ms.getD p.f0.toNat 0) := by unfold msStep; rw [if_pos hi]
    rw [e1, getD_set]
    have h0 := h p.f0.toNat (by omega)
    have h1 := h p.f1.toNat (by omega)
    by_cases hne : p.f0 = p.f1
    · have e2 : rStep (n : Int) kn (toRef p) = kn := by
        unfold rStep rGood toRef
        rw [if_neg]
        intro hh
        have := hh.1
        simp [hne] at this
      rw [e2, hne, Nat.or_self]
      split
      · rename_i hq
        rw [hq.1]; exact h r hr
      · exact h r hr
    · have hg : rGood (n : Int) (toRef p) = true := by
        unfold rGood toRef
        simp only [Bool.and_eq_true, decide_eq_true_eq, bne_iff_ne]
        exact ⟨⟨⟨⟨hb.1, hb.2.1⟩, hb.2.2.1⟩, hb.2.2.2⟩, hne⟩
      by_cases hk0 : kn.getD p.f0.toNat false = true
      · have e2 : rStep (n : Int) kn (toRef p) = kn.set p.f1.toNat true := by unfold rStep; rw [rdOf_nat]; exact if_pos ⟨hg, hk0⟩
        rw [e2, getD_setB]
        by_cases hq : p.f1.toNat = r
        · rw [if_pos ⟨hq, by omega⟩, if_pos ⟨hq, by omega⟩, Nat.testBit_or, h0, hk0]; simp
        · rw [if_neg (fun hh => hq hh.1), if_neg (fun hh => hq hh.1)]; exact h r hr
      · have e2 : rStep (n : Int) kn (toRef p) = kn := by unfold rStep; rw [rdOf_nat]; exact if_neg (fun hh => hk0 hh.2)
        rw [e2]
        by_cases hq : p.f1.toNat = r
        · rw [if_pos ⟨hq, by omega⟩, Nat.testBit_or, h0, h1, Bool.eq_false_iff.mpr hk0, hq]; simp
        · rw [if_neg (fun hh => hq hh.1)]; exact h r hr
  · have e1 : msStep (n : Int) ms p = ms := by unfold msStep; rw [if_neg hi]
    have e2 : rStep (n : Int) kn (toRef p) = kn := by
      unfold rStep
      rw [if_neg]
      intro hh
      obtain ⟨q0, q1, q2, q3, _⟩ := good_at hh.1
      apply hi
      unfold inN
      simp only [Bool.and_eq_true, decide_eq_true_eq]
      exact ⟨⟨⟨q0, q1⟩, q2⟩, q3⟩
    rw [e1, e2]
    exact h r hr
theorem bits_all (n : Nat) (hn : n ≤ 16) (o : Nat) (ho : o < n) (ps : List S26) : ∀ r, r < n → ((msAll n ps).getD r 0).testBit o = (rKn (n : Int) o (ps.map toRef)).getD r false := by
  have key : ∀ (ps : List S26) (ms : List Nat) (kn : List Bool), ms.length = n → kn.length = 16 → (∀ r, r < n → (ms.getD r 0).testBit o = kn.getD r false) →
      ∀ r, r < n → ((ps.foldl (msStep (n : Int)) ms).getD r 0).testBit o = ((ps.map toRef).foldl (rStep (n : Int)) kn).getD r false := by
    intro ps
    induction ps with
    | nil => intro ms kn _ _ h; exact h
    | cons p ps ih =>
      intro ms kn hm hk h
      simp only [List.foldl_cons, List.map_cons]
      exact ih _ _ (by rw [msStep_len, hm]) (by rw [rStep_len, hk]) (bits_step n hn o ms kn hm hk h p)
  unfold msAll rKn
  refine key ps (ms0 n) _ (ms0_len n) (by simp) (fun r hr => ?_)
  rw [getD_setB, List.length_replicate]
  unfold ms0
  rw [List.getD_eq_getElem?_getD, List.getElem?_map, List.getElem?_range hr]
  simp only [Option.map_some, Option.getD_some, Nat.testBit_two_pow]
  by_cases hq : o = r
  · subst hq; rw [if_pos ⟨rfl, by omega⟩]; simp
  · rw [if_neg (fun hh => hq hh.1), List.getD_eq_getElem?_getD, List.getElem?_replicate]
    have : ¬ r = o := fun e => hq e.symm
    simp [this]
    split <;> simp
theorem rAdd_eq (o : Nat) (kn : List Bool) (n : Nat) (g : Nat → List Int) : ∀ r, r ≤ n → rAdd o kn r ((List.range n).map g) = (List.range n).map fun j => if j < r ∧ kn.getD j false = true then g j ++ [(o : Int)] else g j
  | 0, _ => by
    unfold rAdd
    apply List.map_congr_left
    intro j _
    rw [if_neg (by omega)]
  | r + 1, h => by
    have ih := rAdd_eq o kn n g r (by omega)
    unfold rAdd
    rw [ih, rdOf_nat, Int.toNat_natCast]
    by_cases hk : kn.getD r false = true
    · rw [if_pos hk]
      apply List.ext_getElem
      · simp
      · intro j h1 h2
        simp only [List.length_set, List.length_map, List.length_range] at h1
        rw [List.getElem_set]
        by_cases hj : r = j
        · subst hj
          rw [if_pos rfl, List.getD_eq_getElem?_getD, List.getElem?_map, List.getElem?_range (by omega)]
          simp only [Option.map_some, Option.getD_some, List.getElem_map, List.getElem_range]
          rw [if_neg (by omega), if_pos ⟨by omega, hk⟩]
        · rw [if_neg hj]
          simp only [List.getElem_map, List.getElem_range]
          by_cases hb : j < r ∧ kn.getD j false = true
          · rw [if_pos hb, if_pos ⟨by omega, hb.2⟩]
          · rw [if_neg hb, if_neg (fun hh => hb ⟨by omega, hh.2⟩)]
    · rw [if_neg hk]
      apply List.map_congr_left
      intro j hj
      by_cases hb : j < r ∧ kn.getD j false = true
      · rw [if_pos hb, if_pos ⟨by omega, hb.2⟩]
      · rw [if_neg hb, if_neg]
        intro hh
        by_cases e : j = r
        · subst e; exact hk hh.2
        · exact hb ⟨by omega, hh.2⟩
theorem rOut_eq (n : Nat) (ps : List S60) : ∀ o, rOut n ps o = (List.range n).map fun r => ((List.range o).filter fun q => (rKn (n : Int) q ps).getD r false).map Int.ofNat
  | 0 => by
    unfold rOut
    apply List.ext_getElem
    · simp
    · intro j h1 h2
      simp
  | o + 1 => by
    unfold rOut
    rw [rOut_eq n ps o, rAdd_eq _ _ _ _ n (Nat.le_refl _)]
    apply List.map_congr_left
    intro r hr
    rw [List.range_succ, List.filter_append, List.map_append]
    have hr' : r < n := by simpa using hr
    by_cases hk : (rKn (n : Int) o ps).getD r false = true
    · rw [if_pos ⟨hr', hk⟩, List.filter_cons, if_pos hk]; rfl
    · rw [if_neg (fun hh => hk hh.2), List.filter_cons, if_neg hk]; simp
theorem same_reach (n : Nat) (hn : n ≤ 16) (ps : List S26) : rOut n (ps.map toRef) n = (msAll n ps).map (rowOf n) := by
  rw [rOut_eq]
  apply List.ext_getElem
  · simp [msAll_len]
  · intro r h1 h2
    have hr : r < n := by simpa using h1
    simp only [List.getElem_map, List.getElem_range]
    unfold rowOf
    congr 1
    apply List.filter_congr
    intro o ho
    have ho' : o < n := by simpa using ho
    have h := bits_all n hn o ho' ps r hr
    rw [List.getD_eq_getElem?_getD, List.getElem?_eq_getElem (by rw [msAll_len]; exact hr)] at h
    simp only [Option.getD_some] at h
    exact h.symm
theorem clamp16 (a : Int) : ∃ n : Nat, 1 ≤ n ∧ n ≤ 16 ∧ settle_clamp.f a = some (n : Int) ∧ barrowref26_Reps.f a = some (n : Int) := by
  by_cases h1 : a < 1
  · refine ⟨1, by omega, by omega, ?_, ?_⟩
    · unfold settle_clamp.f mx mn; congr 1; split <;> split <;> (try split) <;> (try split) <;> omega
    · unfold barrowref26_Reps.f; rw [if_pos h1]; rfl
  · by_cases h2 : a > 16
    · refine ⟨16, by omega, by omega, ?_, ?_⟩
      · unfold settle_clamp.f mx mn; congr 1; split <;> split <;> (try split) <;> (try split) <;> omega
      · unfold barrowref26_Reps.f; rw [if_neg h1, if_pos h2]; rfl
    · refine ⟨a.toNat, by omega, by omega, ?_, ?_⟩
      · unfold settle_clamp.f mx mn; congr 1; split <;> split <;> (try split) <;> (try split) <;> omega
      · unfold barrowref26_Reps.f; rw [if_neg h1, if_neg h2]; congr 1; omega
theorem reach_same (a : Int) (n : Nat) (hc : settle_clamp.f a = some (n : Int)) (hn : n ≤ 16) (ps : List S26) (hl : ps.length ≤ 9000000000000000000) : settle_Reach.f (ps.length + 400) a ps = some (rOut n (ps.map toRef) n) := by
  rw [same_reach n hn]
  exact reach_eq a n hc hn ps hl _ (Nat.le_refl _)
theorem rOut_rows (n : Nat) (ps : List S60) : ∀ x ∈ rOut n ps n, x.length ≤ n := by
  intro x hx
  rw [rOut_eq] at hx
  obtain ⟨r, _, rfl⟩ := List.mem_map.1 hx
  rw [List.length_map]
  exact Nat.le_trans (List.length_filter_le _ _) (by simp)
end Go.Proofs.Ythpdemfehkoniaa.PSet
