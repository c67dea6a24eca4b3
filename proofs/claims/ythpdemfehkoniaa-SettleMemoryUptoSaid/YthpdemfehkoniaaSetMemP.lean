/- SettleMemory, plain: what the lists hold; a store as a step of a region that draws. No condition. -/
import Derived.Test.YthpdemfehkoniaaSetAsks
namespace Go.Proofs.YthpdemfehkoniaaW.AO
set_option linter.unusedVariables false
open Go.RowKit Go.Proofs.YthpdemfehkoniaaW.PrintWords Go.Proofs.YthpdemfehkoniaaW.PrintLast Go.Proofs.YthpdemfehkoniaaW.PrintMore
theorem upon_mono {P : Program} {o : Oper} {a : Act} {K1 K2 : Act → World → Prop} {Q1 Q2 : Exit → Act → World → Prop} (hK : ∀ a w, K1 a w → K2 a w) (hQ : ∀ e a w, e ≠ .normal → ¬ Q1 e a w) (r : Result Next) (h : o.upon P a K1 Q1 r) : o.upon P a K2 Q2 r := by
  unfold Oper.upon at h ⊢
  split at h
  · exact hK _ _ h
  · exact hK _ _ h
  · exact hK _ _ h
  · refine Calls.mono h (fun e w' he => ?_)
    cases e with
    | returned v => exact hK _ _ he
    | panicked chain => exact (hQ _ _ _ (by simp) he).elim
    | outgrown => obtain ⟨a', w'', hq⟩ := he; exact (hQ _ _ _ (by simp) hq).elim
  · exact Rows.mono h (fun v w' hv => hK _ _ hv)
  · exact (hQ _ _ _ (by simp) h).elim
  · exact h.elim
section
variable {P : Program} {ops : Array Oper} {o : Oper} {a : Act} {Q : Exit → Act → World → Prop} {Kc : Act → World → Prop}
variable {α : Type} {w0 W : World} {base : Nat} {L : List Ob}
/-- A whole element stored into a row of the call's own, as a step of a region that draws. -/
theorem AO.store_step (i : Nat) (d : Kd α) (hw : Region.wanted o (yielded ops a.tmps) = true) (hN : o.dst = none) (hgd : o.guard = none) (t : TypeId) (p x : Operand) (ho : o.op = .store t p x) (e : TypeId) {g n cap o' : Nat} (j : Int) (xs : List α) (z x' : α) (u : Value) (seg : List Value)
    (haddr : a.eval p = .pointer (some ⟨g, o', none⟩)) (hoff : o' = j.toNat * d.sz) (hx : a.eval x = u) (hu : u.cells.toList = seg) (ht : (P.info? t).map (·.size) = some seg.length) (h1 : ∀ q ∈ seg, q.oneCell' = true) (hsz : seg.length = d.sz)
    (h : AO W base L) (hi : L[i]? = some ⟨d, e, .slice (some ⟨g, 0, none⟩) n cap, xs⟩) (h0 : 0 ≤ j) (hj : j < n) (hM : d.M W base (fun _ => False) x' seg) (HB : Below base w0 W)
    (k : ∀ w1, AO w1 base (L.set i ⟨d, e, .slice (some ⟨g, 0, none⟩) n cap, xs.set j.toNat x'⟩) → Below base w0 w1 → W.heap.size ≤ w1.heap.size → Kc a w1) :
    if Region.wanted o (yielded ops a.tmps) = true then Oper.wp P o a W Kc Q else Kc (a.put o.dst undef) W := by
  rw [if_pos hw]
  have key := AO.store (P := P) (ops := ops) (rest := []) (o := o) (a := a) (Q := fun e' a' w' => e' = .normal ∧ Kc a' w') i d hN hgd t p x ho e j xs z x' u seg haddr hoff hx hu ht h1 hsz h hi h0 hj hM HB (fun w1 h1 h2 h3 => wpList_nil ⟨rfl, k w1 h1 h2 h3⟩)
  unfold wpList at key
  rw [if_pos hw] at key
  rcases key with key | ⟨_, a', w', hq, _⟩
  · exact upon_mono (fun a w hk => hk.2) (fun e a w he hq => he hq.1) _ key
  · exact absurd hq (by simp)
end
end Go.Proofs.YthpdemfehkoniaaW.AO
namespace Go.Proofs.Ythpdemfehkoniaa.PSet
set_option linter.unusedVariables false
open Go.RowKit Go.Proofs.YthpdemfehkoniaaW.PrintWords Go.Proofs.YthpdemfehkoniaaW.PrintLast Go.Proofs.YthpdemfehkoniaaW.PrintMore Go.Proofs.YthpdemfehkoniaaW.AO
def rr (i : Nat) : S26 := ⟨-7, (i : Int)⟩
def tl : List S26 := (List.range 70).map rr
def fB (la lb : List S26) (k : Nat) : S26 := if lb.length = 0 then la.getD k z26 else lb.getD (k % lb.length) z26
def nxt (la lb : List S26) (i : Nat) : List S26 := (List.range i).map (fB la lb) ++ la.drop i
theorem nxt_zero (la lb : List S26) : nxt la lb 0 = la := by simp [nxt]
theorem nxt_len (la lb : List S26) (i : Nat) (h : i ≤ la.length) : (nxt la lb i).length = la.length := by simp [nxt]; omega
theorem nxt_set (la lb : List S26) (i : Nat) (h : i < la.length) (t : List S26) : (nxt la lb i ++ t).set i (fB la lb i) = nxt la lb (i + 1) ++ t := by
  unfold nxt
  rw [List.append_assoc, List.set_append_right _ _ (by simp), List.range_succ, List.map_append, List.length_map, List.length_range, Nat.sub_self, List.drop_eq_getElem_cons h, List.cons_append, List.set_cons_zero]
  simp
theorem nxt_get (la lb : List S26) (i : Nat) (h : i < la.length) (t : List S26) : rd_T26 (nxt la lb (i + 1) ++ t) (i : Int) = fB la lb i := by
  unfold rd_T26 nxt
  rw [Int.toNat_natCast, List.getD_eq_getElem?_getD, List.append_assoc, List.getElem?_append_left (by simp), List.getElem?_map, List.getElem?_range (by omega)]
  rfl
theorem nxt_skip (la lb : List S26) (i : Nat) (h : i < la.length) (hb : lb.length = 0) : nxt la lb (i + 1) = nxt la lb i := by
  unfold nxt
  rw [List.range_succ, List.map_append, List.drop_eq_getElem_cons h, List.append_assoc]
  simp [fB, hb, List.getD_eq_getElem?_getD, List.getElem?_eq_getElem h]
theorem tl_get (l : List S26) (i : Nat) (h : i < 70) : rd_T26 (l ++ tl) ((l.length + i : Nat) : Int) = rr i := by
  unfold rd_T26 tl
  rw [Int.toNat_natCast, List.getD_eq_getElem?_getD, List.getElem?_append_right (by omega), Nat.add_sub_cancel_left, List.getElem?_map, List.getElem?_range h]
  rfl
theorem tl_snoc (l : List S26) (i : Nat) : (l ++ (List.range i).map rr) ++ [rr i] = l ++ (List.range (i + 1)).map rr := by
  rw [List.range_succ, List.map_append]; simp
theorem rd_left (l t : List S26) (i : Nat) (h : i < l.length) : rd_T26 (l ++ t) (i : Int) = rd_T26 l (i : Int) := by
  unfold rd_T26
  rw [Int.toNat_natCast, List.getD_eq_getElem?_getD, List.getElem?_append_left h, ← List.getD_eq_getElem?_getD]
end Go.Proofs.Ythpdemfehkoniaa.PSet
