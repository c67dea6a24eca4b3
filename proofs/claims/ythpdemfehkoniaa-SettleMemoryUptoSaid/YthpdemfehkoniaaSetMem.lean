/- SettleMemory, plain: what markOps answers; rows put together. Condition: the lists of ops hold at most 2^40 ops. -/
import Derived.Test.YthpdemfehkoniaaSetMark
namespace Go.Proofs.YthpdemfehkoniaaW.AO
open Go.RowKit Go.Proofs.YthpdemfehkoniaaW.PrintWords Go.Proofs.YthpdemfehkoniaaW.PrintLast Go.Proofs.YthpdemfehkoniaaW.PrintMore
theorem perm_idx {L1 L2 : List Ob} (h : L1.Perm L2) : ∃ g : Nat → Nat, (∀ i j, i < L2.length → j < L2.length → g i = g j → i = j) ∧ ∀ i, i < L2.length → L2[i]? = L1[g i]? := by
  induction h with
  | nil => exact ⟨id, fun i j h => by simp at h, fun i h => by simp at h⟩
  | cons x h ih =>
    obtain ⟨g, h1, h2⟩ := ih
    refine ⟨fun i => if i = 0 then 0 else g (i - 1) + 1, fun i j hi hj e => ?_, fun i hi => ?_⟩
    · rw [List.length_cons] at hi hj
      simp only at e
      split at e <;> split at e <;> first | omega | skip
      have := h1 (i - 1) (j - 1) (by omega) (by omega) (by omega)
      omega
    · rw [List.length_cons] at hi
      cases i with
      | zero => rfl
      | succ i => simpa using h2 i (by omega)
  | swap x y l =>
    refine ⟨fun i => if i = 0 then 1 else if i = 1 then 0 else i, fun i j _ _ e => ?_, fun i _ => by match i with | 0 => rfl | 1 => rfl | i + 2 => simp⟩
    simp only at e
    repeat' split at e
    all_goals omega
  | trans p q ih1 ih2 =>
    obtain ⟨g, h1, h2⟩ := ih1
    obtain ⟨f, h3, h4⟩ := ih2
    have key : ∀ i, i < _ → f i < _ := fun i hi => by
      have h := h4 i hi
      rw [List.getElem?_eq_getElem hi] at h
      exact (List.getElem?_eq_some_iff.1 h.symm).1
    exact ⟨fun i => g (f i), fun i j hi hj e => h3 i j hi hj (h1 _ _ (key i hi) (key j hj) e), fun i hi => by rw [h4 i hi, h2 _ (key i hi)]⟩
theorem AO.perm {w : World} {base : Nat} {L1 L2 : List Ob} (h : AO w base L1) (p : L1.Perm L2) : AO w base L2 := by
  obtain ⟨g, h1, h2⟩ := perm_idx p
  exact h.sub g h1 h2
theorem rowsOf_append {α : Type} (d : Kd α) (e : Nat) (hs hs' : List Value) (xs xs' : List (List α)) (h : hs.length = xs.length) : rowsOf d e (hs ++ hs') (xs ++ xs') = rowsOf d e hs xs ++ rowsOf d e hs' xs' := by
  unfold rowsOf
  exact List.zipWith_append h
/-- Two lists of lists and their heads put together: the two old heads fall away. -/
theorem AO.both {α : Type} {d : Kd α} {w : World} {base : Nat} {e e1 : Nat} {v va vb : Value} {ha hb : List Value} {xa xb : List (List α)} {L : List Ob} (hl : ha.length = xa.length)
    (h : AO w base (heads e v (ha ++ hb) :: heads e vb hb :: (rowsOf d e1 hb xb ++ (heads e va ha :: (rowsOf d e1 ha xa ++ L))))) : AO w base (heads e v (ha ++ hb) :: (rowsOf d e1 (ha ++ hb) (xa ++ xb) ++ L)) := by
  rw [rowsOf_append d e1 ha hb xa xb hl]
  have h1 := h.skip
  have h2 := h1.perm (L2 := heads e va ha :: heads e v (ha ++ hb) :: (rowsOf d e1 ha xa ++ rowsOf d e1 hb xb ++ L)) (by
    refine List.Perm.trans ?_ (List.Perm.swap _ _ _)
    refine List.Perm.cons _ ?_
    refine List.perm_middle.trans ?_
    refine List.Perm.cons _ ?_
    rw [← List.append_assoc]
    exact List.Perm.append_right _ List.perm_append_comm)
  exact h2.tail
section
variable {P : Program} {ops : Array Oper} {rest : List Oper} {o : Oper} {a : Act} {Q : Exit → Act → World → Prop}
variable {α : Type} {w0 W : World} {base : Nat} {L : List Ob}
/-- A whole element stored into a row of the call's own. -/
theorem AO.store (i : Nat) (d : Kd α) (hN : o.dst = none) (hgd : o.guard = none) (t : TypeId) (p x : Operand) (ho : o.op = .store t p x) (e : TypeId) {g n cap o' : Nat} (j : Int) (xs : List α) (z x' : α) (u : Value) (seg : List Value)
    (haddr : a.eval p = .pointer (some ⟨g, o', none⟩)) (hoff : o' = j.toNat * d.sz) (hx : a.eval x = u) (hu : u.cells.toList = seg) (ht : (P.info? t).map (·.size) = some seg.length) (h1 : ∀ q ∈ seg, q.oneCell' = true) (hsz : seg.length = d.sz)
    (h : AO W base L) (hi : L[i]? = some ⟨d, e, .slice (some ⟨g, 0, none⟩) n cap, xs⟩) (h0 : 0 ≤ j) (hj : j < n) (hM : d.M W base (fun _ => False) x' seg) (HB : Below base w0 W)
    (k : ∀ w1, AO w1 base (L.set i ⟨d, e, .slice (some ⟨g, 0, none⟩) n cap, xs.set j.toNat x'⟩) → Below base w0 w1 → W.heap.size ≤ w1.heap.size → wpList P ops Q rest a w1) :
    wpList P ops Q (o :: rest) a W := by
  obtain ⟨f, hf⟩ := h
  have hR : d.R e W base (fun b => f b = i ∧ b < W.heap.size) (.slice (some ⟨g, 0, none⟩) n cap) xs := Kd.R_mono (Kd.R_bound (hf i _ hi)) (fun k hk => ⟨hk.1, hk.2.2.1⟩)
  obtain ⟨c, hc, _, hcc, _⟩ := Kd.R_elem hR z j h0 hj
  refine Kd.R_store d base hN hgd t p x ho e j 0 xs x' u seg c (fun b => f b = i ∧ b < W.heap.size) (fun _ => False) haddr (by rw [hoff]; rfl) hx hu ht h1 hR h0 hj hc hcc (by omega) (by
    rw [List.take_zero, List.nil_append, Nat.zero_add, List.drop_of_length_le (by omega), List.append_nil]; exact hM) (fun _ hk => hk.elim) HB ?_
  intro w1 hR1 hB1 hg
  refine k w1 ?_ hB1 hg.size
  refine ⟨fun b => if b < W.heap.size then f b else i, fun q r hq => ?_⟩
  rw [List.getElem?_set] at hq
  by_cases hij : i = q
  · subst hij
    rw [if_pos rfl] at hq
    split at hq
    · obtain rfl : (⟨d, e, .slice (some ⟨g, 0, none⟩) n cap, xs.set j.toNat x'⟩ : Ob) = r := by simpa using hq
      exact Kd.R_mono hR1 (fun k hk => by simp only; rw [if_pos hk.2, hk.1])
    · simp at hq
  · rw [if_neg hij] at hq
    refine Kd.R_mono (Kd.R_step (Kd.R_bound (hf q r hq)) (fun k hk hlt => hg.block k hlt ?_)) (fun k hk => by simp only; rw [if_pos hk.2.2.1, hk.1])
    intro hk'
    have h3 := hR.1 g (by simp [Value.ownBlock])
    have h2 := hk.1
    have h4 : k = g := by injection hk'
    subst h4
    have := h3.1
    omega
end
end Go.Proofs.YthpdemfehkoniaaW.AO
namespace Go.Proofs.Ythpdemfehkoniaa.PSet
open Go.RowKit Go.Proofs.YthpdemfehkoniaaW.PrintWords Go.Proofs.YthpdemfehkoniaaW.PrintLast Go.Proofs.YthpdemfehkoniaaW.PrintMore Go.Proofs.YthpdemfehkoniaaW.AO
def mA (i : Nat) : S29 := ⟨1000 + (i : Int), 0, 0, 0, ⟨#[]⟩, 0, 0⟩
def mB (i : Nat) : S29 := ⟨-1000 - (i : Int), 0, 0, 0, ⟨#[]⟩, 0, 0⟩
def tA (i : Nat) : S29 := ⟨2, 0, 0, 0, ⟨#[]⟩, 0, (i : Int)⟩
def tB (i : Nat) : S29 := ⟨3, 0, 0, 0, ⟨#[]⟩, 0, (i : Int)⟩
theorem set_mark {f : Nat → S29} (x : List S29) (i : Nat) (h : i < x.length) : ((List.range i).map f ++ x.drop i).set i (f i) = (List.range (i + 1)).map f ++ x.drop (i + 1) := by
  rw [List.set_append_right _ _ (by simp), List.range_succ, List.map_append, List.length_map, List.length_range, Nat.sub_self, List.drop_eq_getElem_cons h, List.set_cons_zero]
  simp
theorem snoc_mark {f : Nat → S29} (x : List S29) (i : Nat) : (x ++ (List.range i).map f) ++ [f i] = x ++ (List.range (i + 1)).map f := by
  rw [List.range_succ, List.map_append]; simp
theorem rd_mark (f g : Nat → S29) (n i m : Nat) (h : i < n) : rd_T29 ((List.range n).map f ++ (List.range m).map g) (i : Int) = f i := by
  unfold rd_T29
  rw [Int.toNat_natCast, List.getD_eq_getElem?_getD, List.getElem?_append_left (by simpa using h), List.getElem?_map, List.getElem?_range h]
  rfl
theorem rd_tail (f g : Nat → S29) (n m : Nat) (h : 0 < m) : rd_T29 ((List.range n).map f ++ (List.range m).map g) (n : Int) = g 0 := by
  unfold rd_T29
  rw [Int.toNat_natCast, List.getD_eq_getElem?_getD, List.getElem?_append_right (by simp), List.length_map, List.length_range, Nat.sub_self, List.getElem?_map, List.getElem?_range h]
  rfl
end Go.Proofs.Ythpdemfehkoniaa.PSet
