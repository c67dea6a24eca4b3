/- What Enough, Pairs, Rounds and the shuffled lists of the layer settle come to: plain lists, no memory. -/
import Derived.Test.YthpdemfehkoniaaSetPure
import Derived.Test.YthpdemfehkoniaaSet7
import Derived.Test.YthpdemfehkoniaaSet9
import Derived.Test.YthpdemfehkoniaaSet10
namespace Go.Proofs.Ythpdemfehkoniaa.PSet
open Go.RowKit Go.Proofs.YthpdemfehkoniaaW.PrintWords Go.Proofs.YthpdemfehkoniaaW.PrintLast Go.Proofs.YthpdemfehkoniaaW.PrintMore
set_option linter.unusedVariables false

/-! Enough -/
def fullB (n : Nat) (ms : List Nat) : Bool := ms.all fun m => m == 2 ^ n - 1
theorem full_num : ∀ n : Nat, n ≤ 16 → (shl .u32 1 (n : Int) - 1) % 4294967296 = ((2 ^ n - 1 : Nat) : Int) := by
  intro n hn
  have : ∀ m, m < 17 → (shl .u32 1 ((m : Nat) : Int) - 1) % 4294967296 = ((2 ^ m - 1 : Nat) : Int) := by decide
  exact this n (by omega)
theorem enough_l0 (n : Nat) (hn : n ≤ 16) (ms : List Nat) (hl : ms.length = n) : ∀ (d k i : Nat), n - i = d → i ≤ n → d < k → settle_Enough.l0 k (n : Int) (castL ms) (n : Int) (i : Int) = some (fullB n (ms.drop i)) := by
  intro d
  induction d with
  | zero =>
    intro k i h1 h2 h3
    obtain ⟨k, rfl⟩ : ∃ m, k = m + 1 := ⟨k - 1, by omega⟩
    simp only [settle_Enough.l0]
    rw [if_neg (by omega), List.drop_of_length_le (by omega)]
    rfl
  | succ d ih =>
    intro k i h1 h2 h3
    obtain ⟨k, rfl⟩ : ∃ m, k = m + 1 := ⟨k - 1, by omega⟩
    have hil : i < ms.length := by omega
    have hg : ms.getD i 0 = ms[i] := by simp [List.getD_eq_getElem?_getD, List.getElem?_eq_getElem hil]
    simp only [settle_Enough.l0]
    rw [if_pos (by omega), if_pos (by omega), if_pos (by rw [castL_len]; omega), if_pos (by omega), rd_cast, Int.toNat_natCast, full_num n hn, wrap_next (n := n) (by omega) (by omega), hg, List.drop_eq_getElem_cons hil]
    by_cases h : ms[i] = 2 ^ n - 1
    · rw [if_pos (by rw [h]), ih k (i + 1) (by omega) (by omega) (by omega)]
      unfold fullB
      rw [List.all_cons, beq_iff_eq.2 h, Bool.true_and]
    · rw [if_neg (by omega)]
      unfold fullB
      rw [List.all_cons, beq_eq_false_iff_ne.2 h, Bool.false_and]
theorem enough_eq (a : Int) (n : Nat) (hc : settle_clamp.f a = some (n : Int)) (hn : n ≤ 16) (ps : List S26) (hl : ps.length ≤ 9000000000000000000) (k : Nat) (hk : ps.length + 400 ≤ k) : settle_Enough.f k a ps = some (fullB n (msAll n ps)) := by
  unfold settle_Enough.f
  rw [hc]
  simp only [Option.bind_some]
  rw [masks_eq n hn ps hl k (by omega)]
  simp only [Option.bind_some]
  rw [castL_len, msAll_len]
  exact enough_l0 n hn (msAll n ps) (msAll_len n ps) n k 0 (by omega) (by omega) (by omega)

/-! masks stay below 2^n, and a full one is 2^n - 1 -/
theorem msAll_lt (n : Nat) (ps : List S26) : ∀ i, (msAll n ps).getD i 0 < 2 ^ n := by
  have hstep : ∀ (ms : List Nat) (p : S26), (∀ i, ms.getD i 0 < 2 ^ n) → ∀ i, (msStep (n : Int) ms p).getD i 0 < 2 ^ n := by
    intro ms p h i
    unfold msStep
    split
    · rw [getD_set]
      split
      · exact Nat.or_lt_two_pow (h _) (h _)
      · exact h i
    · exact h i
  have : ∀ (ps : List S26) (ms : List Nat), (∀ i, ms.getD i 0 < 2 ^ n) → ∀ i, (ps.foldl (msStep (n : Int)) ms).getD i 0 < 2 ^ n := by
    intro ps
    induction ps with
    | nil => intro ms h; exact h
    | cons p ps ih => intro ms h; exact ih _ (hstep ms p h)
  refine this ps _ (fun i => ?_)
  unfold ms0
  rw [List.getD_eq_getElem?_getD, List.getElem?_map]
  by_cases h : i < n
  · rw [List.getElem?_range h]
    exact Nat.pow_lt_pow_right (by decide) h
  · rw [List.getElem?_eq_none (by simp; omega)]
    exact Nat.two_pow_pos n
theorem full_of_bits {n m : Nat} (hm : m < 2 ^ n) (h : ∀ o, o < n → m.testBit o = true) : m = 2 ^ n - 1 := by
  apply Nat.eq_of_testBit_eq
  intro i
  rw [Nat.testBit_two_pow_sub_one]
  by_cases hi : i < n
  · rw [h i hi]; simp [hi]
  · have h1 : m.testBit i = false := Nat.testBit_lt_two_pow (Nat.lt_of_lt_of_le hm (Nat.pow_le_pow_right (by decide) (by omega)))
    rw [h1]; simp [hi]
theorem row_full {n m : Nat} (hm : m < 2 ^ n) : ((rowOf n m).length = n) ↔ m = 2 ^ n - 1 := by
  unfold rowOf
  rw [List.length_map]
  constructor
  · intro h
    have h2 : ((List.range n).filter fun o => m.testBit o).length = (List.range n).length := by rw [h, List.length_range]
    rw [List.length_filter_eq_length_iff] at h2
    exact full_of_bits hm (fun o ho => h2 o (List.mem_range.2 ho))
  · intro h
    have h2 : (List.range n).filter (fun o => m.testBit o) = List.range n := by
      rw [List.filter_eq_self]
      intro o ho
      rw [h, Nat.testBit_two_pow_sub_one]
      simpa using ho
    rw [h2, List.length_range]
def refB (n : Nat) (L : List (List Int)) : Bool := L.all fun l => decide (l.length = n)
theorem ref_full (n : Nat) (hn : n ≤ 16) (ps : List S26) : refB n (rOut n (ps.map toRef) n) = fullB n (msAll n ps) := by
  rw [same_reach n hn]
  unfold refB fullB
  rw [List.all_map]
  have hall : ∀ m ∈ msAll n ps, ((fun l => decide (l.length = n)) ∘ rowOf n) m = (m == 2 ^ n - 1) := by
    intro m hm
    obtain ⟨i, hi, rfl⟩ := List.getElem_of_mem hm
    have hlt := msAll_lt n ps i
    rw [List.getD_eq_getElem?_getD, List.getElem?_eq_getElem hi] at hlt
    have h := row_full (n := n) (m := (msAll n ps)[i]) hlt
    simp only [Function.comp]
    by_cases hq : (msAll n ps)[i] = 2 ^ n - 1
    · rw [decide_eq_true (h.2 hq), beq_iff_eq.2 hq]
    · rw [decide_eq_false (fun hh => hq (h.1 hh)), beq_eq_false_iff_ne.2 hq]
  rw [Bool.eq_iff_iff, List.all_eq_true, List.all_eq_true]
  exact ⟨fun h m hm => by rw [← hall m hm]; exact h m hm, fun h m hm => by rw [hall m hm]; exact h m hm⟩

/-! who hears of whom -/
theorem step_keeps (n : Int) (ms : List Nat) (p : S26) (r b : Nat) (h : (ms.getD r 0).testBit b = true) : ((msStep n ms p).getD r 0).testBit b = true := by
  unfold msStep
  split
  · rw [getD_set]
    split
    · rename_i hq
      rw [Nat.testBit_or, hq.1, h]; rfl
    · exact h
  · exact h
theorem fold_keeps (n : Int) (ps : List S26) : ∀ (ms : List Nat) (r b : Nat), (ms.getD r 0).testBit b = true → ((ps.foldl (msStep n) ms).getD r 0).testBit b = true := by
  induction ps with
  | nil => intro ms r b h; exact h
  | cons p ps ih => intro ms r b h; exact ih _ r b (step_keeps n ms p r b h)
theorem fold_hears (n : Nat) (ps : List S26) : ∀ (ms : List Nat), ms.length = n → ∀ (a r b : Nat), a < n → r < n → (∃ p, p ∈ ps ∧ p.f0 = (a : Int) ∧ p.f1 = (r : Int)) → (ms.getD a 0).testBit b = true → ((ps.foldl (msStep (n : Int)) ms).getD r 0).testBit b = true := by
  induction ps with
  | nil => intro ms _ a r b _ _ h; obtain ⟨p, hp, _⟩ := h; cases hp
  | cons p ps ih =>
    intro ms hm a r b ha hr h hb
    rw [List.foldl_cons]
    obtain ⟨q, hq, e0, e1⟩ := h
    rcases List.mem_cons.1 hq with rfl | hq
    · refine fold_keeps _ ps _ r b ?_
      have hi : inN (n : Int) q = true := by
        unfold inN
        simp only [Bool.and_eq_true, decide_eq_true_eq]
        omega
      unfold msStep
      rw [if_pos hi, getD_set, e0, e1]
      simp only [Int.toNat_natCast]
      rw [if_pos ⟨trivial, by omega⟩, Nat.testBit_or, hb]
      simp
    · exact ih _ (by rw [msStep_len, hm]) a r b ha hr ⟨q, hq, e0, e1⟩ (step_keeps _ ms p a b hb)
theorem ms0_self (n r : Nat) (h : r < n) : ((ms0 n).getD r 0).testBit r = true := by
  unfold ms0
  rw [List.getD_eq_getElem?_getD, List.getElem?_map, List.getElem?_range h]
  simp
theorem full_of_all (n : Nat) (ps : List S26) (h : ∀ r, r < n → ∀ b, b < n → ((msAll n ps).getD r 0).testBit b = true) : fullB n (msAll n ps) = true := by
  unfold fullB
  rw [List.all_eq_true]
  intro m hm
  obtain ⟨i, hi, rfl⟩ := List.getElem_of_mem hm
  have hlt := msAll_lt n ps i
  have hi' : i < n := by rw [msAll_len] at hi; exact hi
  have h2 := h i hi'
  rw [List.getD_eq_getElem?_getD, List.getElem?_eq_getElem hi] at hlt h2
  exact beq_iff_eq.2 (full_of_bits hlt h2)
/-! all pairs, in any order -/
def PL (n : Nat) : List S26 := (settle_Pairs.f 700 (n : Int)).getD []
theorem PL_ok : ∀ n, n < 17 → (settle_Pairs.f 700 ((n : Nat) : Int)).isSome = true := by decide +kernel
theorem clamp_self (n : Nat) (h1 : 1 ≤ n) (hn : n ≤ 16) : settle_clamp.f (n : Int) = some (n : Int) := by
  unfold settle_clamp.f mx mn; congr 1; split <;> split <;> (try split) <;> (try split) <;> omega
theorem pairs_eq (a : Int) (n : Nat) (h1 : 1 ≤ n) (hn : n ≤ 16) (hc : settle_clamp.f a = some (n : Int)) : settle_Pairs.f 700 a = some (PL n) := by
  have e : settle_Pairs.f 700 a = settle_Pairs.f 700 (n : Int) := by unfold settle_Pairs.f; rw [hc, clamp_self n h1 hn]
  rw [e]
  have h := PL_ok n (by omega)
  unfold PL
  obtain ⟨l, hl⟩ := Option.isSome_iff_exists.1 h
  rw [hl]; rfl
theorem PL_len : ∀ n, n < 17 → (PL n).length ≤ 240 := by decide +kernel
def hasP (l : List S26) (a r : Nat) : Bool := l.any fun p => decide (p.f0 = (a : Int)) && decide (p.f1 = (r : Int))
theorem hasP_iff {l : List S26} {a r : Nat} (h : hasP l a r = true) : ∃ p, p ∈ l ∧ p.f0 = (a : Int) ∧ p.f1 = (r : Int) := by
  unfold hasP at h
  obtain ⟨p, hp, hq⟩ := List.any_eq_true.1 h
  simp only [Bool.and_eq_true, decide_eq_true_eq] at hq
  exact ⟨p, hp, hq.1, hq.2⟩
theorem PL_has : ∀ n, n < 17 → ∀ a, a < n → ∀ r, r < n → a ≠ r → hasP (PL n) a r = true := by decide +kernel
theorem all_enough (n : Nat) (hn : n ≤ 16) (q : List S26) (hq : ∀ p, p ∈ PL n → p ∈ q) : fullB n (msAll n q) = true := by
  refine full_of_all n q (fun r hr b hb => ?_)
  by_cases h : b = r
  · subst h
    exact fold_keeps _ q _ b b (ms0_self n b hb)
  · obtain ⟨p, hp, e0, e1⟩ := hasP_iff (PL_has n (by omega) b hb r hr h)
    exact fold_hears n q (ms0 n) (ms0_len n) b r b hb hr ⟨p, hq p hp, e0, e1⟩ (ms0_self n b hb)

/-! the doubling rounds, each in any order -/
def RL (n : Nat) : List (List S26) := (settle_Rounds.f 700 (n : Int)).getD []
theorem RL_ok : ∀ n, n < 17 → (settle_Rounds.f 700 ((n : Nat) : Int)).isSome = true := by decide +kernel
theorem rounds_eq (a : Int) (n : Nat) (h1 : 1 ≤ n) (hn : n ≤ 16) (hc : settle_clamp.f a = some (n : Int)) : settle_Rounds.f 700 a = some (RL n) := by
  have e : settle_Rounds.f 700 a = settle_Rounds.f 700 (n : Int) := by unfold settle_Rounds.f; rw [hc, clamp_self n h1 hn]
  rw [e]
  have h := RL_ok n (by omega)
  unfold RL
  obtain ⟨l, hl⟩ := Option.isSome_iff_exists.1 h
  rw [hl]; rfl
theorem RL_len : ∀ n, n < 17 → (RL n).length ≤ 4 := by decide +kernel
theorem RL_end : ∀ n, n < 17 → n ≤ 2 ^ (RL n).length := by decide +kernel
theorem RL_many : ∀ n, n < 17 → n - 1 ≤ (RL n).length * n := by decide +kernel
theorem RL_each : ∀ n, n < 17 → ∀ k, k < (RL n).length → ((RL n).getD k []).length = n := by decide +kernel
theorem RL_has : ∀ n, n < 17 → ∀ k, k < (RL n).length → ∀ a, a < n → hasP ((RL n).getD k []) a ((a + 2 ^ k) % n) = true := by decide +kernel
/-- behind k rounds r knows the 2^k ones up to it -/
def win (n k r b : Nat) : Bool := decide ((r + n - b) % n < 2 ^ k)
theorem win_all : ((List.range 17).all fun n => (List.range 4).all fun k => (List.range n).all fun a => (List.range n).all fun b =>
    !win n (k + 1) ((a + 2 ^ k) % n) b || (win n k ((a + 2 ^ k) % n) b || win n k a b)) = true := by decide +kernel
theorem win_next (n : Nat) (hn : n < 17) (k : Nat) (hk : k < 4) (a : Nat) (ha : a < n) (b : Nat) (hb : b < n) (h : win n (k + 1) ((a + 2 ^ k) % n) b = true) : win n k ((a + 2 ^ k) % n) b = true ∨ win n k a b = true := by
  have h1 := List.all_eq_true.1 win_all n (List.mem_range.2 hn)
  have h2 := List.all_eq_true.1 h1 k (List.mem_range.2 hk)
  have h3 := List.all_eq_true.1 h2 a (List.mem_range.2 ha)
  have h4 := List.all_eq_true.1 h3 b (List.mem_range.2 hb)
  rw [h, Bool.not_true, Bool.false_or, Bool.or_eq_true] at h4
  exact h4
theorem win_from : ∀ n, n < 17 → ∀ k, k < 4 → ∀ r, r < n → ∃ a, a < n ∧ (a + 2 ^ k) % n = r := by decide +kernel
def Knows (n k : Nat) (acc : List S26) : Prop := ∀ r, r < n → ∀ b, b < n → win n k r b = true → ((msAll n acc).getD r 0).testBit b = true
theorem win_zero : ∀ n, n < 17 → ∀ r, r < n → ∀ b, b < n → win n 0 r b = true → b = r := by decide +kernel
theorem knows_zero (n : Nat) (hn : n ≤ 16) : Knows n 0 [] := by
  intro r hr b hb h
  have := win_zero n (by omega) r hr b hb h
  subst this
  exact ms0_self n b hb
theorem knows_next (n : Nat) (hn : n ≤ 16) (k : Nat) (hk : k < (RL n).length) (acc q : List S26) (hq : ∀ p, p ∈ (RL n).getD k [] → p ∈ q) (h : Knows n k acc) : Knows n (k + 1) (acc ++ q) := by
  intro r hr b hb hw
  have hk4 : k < 4 := by have := RL_len n (by omega); omega
  obtain ⟨a, ha, rfl⟩ := win_from n (by omega) k hk4 r hr
  unfold msAll
  rw [List.foldl_append]
  rcases win_next n (by omega) k hk4 a ha b hb hw with h1 | h1
  · exact fold_keeps _ q _ _ b (h _ hr b hb h1)
  · obtain ⟨p, hp, e0, e1⟩ := hasP_iff (RL_has n (by omega) k hk a ha)
    exact fold_hears n q _ (msAll_len n acc) a _ b ha hr ⟨p, hq p hp, e0, e1⟩ (h a ha b hb h1)
theorem knows_end (n : Nat) (hn : n ≤ 16) (acc : List S26) (h : Knows n (RL n).length acc) : fullB n (msAll n acc) = true := by
  refine full_of_all n acc (fun r hr b hb => h r hr b hb ?_)
  unfold win
  have h2 := RL_end n (by omega)
  have h3 : (r + n - b) % n < n := Nat.mod_lt _ (by omega)
  exact decide_eq_true (by omega)

/-! a shuffled list has what the list has -/
theorem tmod_lt (x : Int) (m : Nat) (hm : 0 < m) : -(m : Int) < Int.tmod x m ∧ Int.tmod x m < m := by
  refine ⟨?_, Int.tmod_lt_of_pos _ (by omega)⟩
  have h := Int.lt_tmod_of_pos x (show (0 : Int) < (m : Int) by omega)
  omega
def swapP (l : List S26) (i j : Nat) : List S26 := (l.set i (rd_T26 l (j : Int))).set j (rd_T26 l (i : Int))
theorem swap_mem (l : List S26) (i j : Nat) (hi : i < l.length) (hj : j < l.length) : ∀ p, p ∈ l → p ∈ swapP l i j := by
  intro p hp
  obtain ⟨q, hq, rfl⟩ := List.getElem_of_mem hp
  have e : ∀ m, m < l.length → rd_T26 l (m : Int) = l.getD m z26 := fun m _ => by simp [rd_T26]
  unfold swapP
  rw [e j hj, e i hi]
  have gi : l.getD i z26 = l[i] := by simp [List.getD_eq_getElem?_getD, List.getElem?_eq_getElem hi]
  have gj : l.getD j z26 = l[j] := by simp [List.getD_eq_getElem?_getD, List.getElem?_eq_getElem hj]
  rw [gi, gj]
  rw [List.mem_iff_getElem]
  by_cases hqi : q = i
  · subst hqi
    exact ⟨j, by simpa using hj, by rw [List.getElem_set_self]⟩
  · by_cases hqj : q = j
    · subst hqj
      exact ⟨i, by simpa using hi, by rw [List.getElem_set_ne (fun hh => hqi hh), List.getElem_set_self]⟩
    · exact ⟨q, by simpa using hq, by rw [List.getElem_set_ne (fun hh => hqj hh.symm), List.getElem_set_ne (fun hh => hqi hh.symm)]⟩
theorem shuf_l0 (x : List Int) (hx : x.length ≤ 9000000000000000000) (N : Nat) (hN : N ≤ 4000000000000000000) : ∀ (d k i : Nat) (l : List S26), l.length = N → N - i = d → i ≤ N → 2 * d + 2 < k →
    ∃ r, barrowlaw26_shuffled.l0 k x l (i : Int) = some r ∧ r.length = N ∧ ∀ p, p ∈ l → p ∈ r := by
  intro d
  induction d with
  | zero =>
    intro k i l hl h1 h2 h3
    obtain ⟨k, rfl⟩ : ∃ m, k = m + 2 := ⟨k - 2, by omega⟩
    refine ⟨l, ?_, hl, fun _ h => h⟩
    simp only [barrowlaw26_shuffled.l0]
    rw [if_neg (by omega)]
    simp only [barrowlaw26_shuffled.j1]
    rw [if_neg (by decide)]
  | succ d ih =>
    intro k i l hl h1 h2 h3
    obtain ⟨k, rfl⟩ : ∃ m, k = m + 2 := ⟨k - 2, by omega⟩
    simp only [barrowlaw26_shuffled.l0]
    rw [if_pos (by omega)]
    simp only [barrowlaw26_shuffled.j1]
    by_cases hix : (i : Int) < (x.length : Int)
    · rw [if_pos (by rw [decide_eq_true hix]), if_pos (by omega), if_pos hix, if_neg (by omega)]
      have ht := tmod_lt (rd x (i : Int)) l.length (by omega)
      have key : ∀ j : Nat, j < l.length → ∃ r, barrowlaw26_shuffled.l0 k x (swapP l i j) ((i + 1 : Nat) : Int) = some r ∧ r.length = N ∧ ∀ p, p ∈ l → p ∈ r := by
        intro j hj
        obtain ⟨r, hr, hrl, hrm⟩ := ih k (i + 1) (swapP l i j) (by unfold swapP; simp [hl]) (by omega) (by omega) (by omega)
        exact ⟨r, hr, hrl, fun p hp => hrm p (swap_mem l i j (by omega) hj p hp)⟩
      by_cases hneg : Int.tmod (rd x (i : Int)) (l.length : Int) < 0
      · have hw : wrap64 (Int.tmod (rd x (i : Int)) (l.length : Int) + (l.length : Int)) = ((Int.tmod (rd x (i : Int)) (l.length : Int) + (l.length : Int)).toNat : Int) := by unfold wrap64; omega
        rw [if_pos hneg, hw]
        obtain ⟨r, hr, hrest⟩ := key (Int.tmod (rd x (i : Int)) (l.length : Int) + (l.length : Int)).toNat (by omega)
        refine ⟨r, ?_, hrest⟩
        rw [if_pos (by omega), if_pos (by omega), if_pos (by omega), wrap_next (n := N) (by omega) (by omega)]
        exact hr
      · have hw : Int.tmod (rd x (i : Int)) (l.length : Int) = ((Int.tmod (rd x (i : Int)) (l.length : Int)).toNat : Int) := by omega
        rw [if_neg hneg]
        obtain ⟨r, hr, hrest⟩ := key (Int.tmod (rd x (i : Int)) (l.length : Int)).toNat (by omega)
        refine ⟨r, ?_, hrest⟩
        rw [hw, if_pos (by omega), if_pos (by omega), if_pos (by omega), wrap_next (n := N) (by omega) (by omega)]
        exact hr
    · refine ⟨l, ?_, hl, fun _ h => h⟩
      rw [if_neg (by rw [decide_eq_false hix]; decide)]
theorem shuf_ok (l : List S26) (x : List Int) (hl : l.length ≤ 1000) (hx : x.length ≤ 9000000000000000000) : ∃ r, barrowlaw26_shuffled.f 3000 l x = some r ∧ r.length = l.length ∧ ∀ p, p ∈ l → p ∈ r := by
  unfold barrowlaw26_shuffled.f
  rw [copyPairs_self l (by omega)]
  simp only [Option.bind_some]
  obtain ⟨r, h1, h2, h3⟩ := shuf_l0 x hx l.length (by omega) l.length 3000 0 l rfl (by omega) (by omega) (by omega)
  exact ⟨r, h1, h2, h3⟩

/-! all pairs but those to replica 0 -/
def deaf (n : Nat) : List S26 := (PL n).filter fun p => decide (p.f1 ≠ 0)
theorem deaf_not : ∀ n, n < 17 → 1 ≤ n → fullB n (msAll n (deaf n)) = decide (n = 1) := by decide +kernel
end Go.Proofs.Ythpdemfehkoniaa.PSet
