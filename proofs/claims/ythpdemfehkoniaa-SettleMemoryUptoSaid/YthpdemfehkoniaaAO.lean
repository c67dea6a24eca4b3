/- What a call has made, all of it in one statement: a list of rows and boxes that share no block; each operation on memory as one step on that list. For any program. No condition. -/
import Derived.Below
import Derived.Deep.Draws
import Derived.Deep.AppendLies
import Derived.Maps.AppendAt
import Derived.OwnWalk
import Derived.Laws.BytesArg
import Derived.Laws.MakeOwn
import Derived.Laws.OwnMore
import Derived.Deep.OwnRows
import Derived.Tactics
import Derived.Lib.ConvBytes
import Derived.Laws.Slices
import Derived.WalkKit
import Derived.KernelRfl
import Derived.RowKit3
import Derived.Deep.LoopGhost
import Derived.Deep.QuietTactic
import Derived.BigQuiet
import Derived.WideLaws
import Derived.Deep.DeepCutAuto
import Derived.Deep.CutBlock
import Derived.Deep.RegionHeld3
import Derived.Laws.Rows
import Derived.Lib.AppendStr
import Derived.ArgAppend
import Derived.Laws.IdiomCopy
import Derived.OrdersHeld
import Derived.Laws.BitsLemmas
import Derived.RowKit
import Derived.Test.YthpdemfehkoniaaWWords
import Derived.Test.YthpdemfehkoniaaWLast
import Derived.Test.YthpdemfehkoniaaWTab
import Derived.Test.YthpdemfehkoniaaWFour
import Derived.Test.YthpdemfehkoniaaWQPut
import Derived.Test.YthpdemfehkoniaaWApart
import Derived.Test.YthpdemfehkoniaaWArr
import Derived.Test.YthpdemfehkoniaaWZeros
import Derived.Test.YthpdemfehkoniaaWFoot
import Derived.Test.YthpdemfehkoniaaWKept
import Derived.Test.YthpdemfehkoniaaWShare
import Derived.Test.YthpdemfehkoniaaWN
import Derived.Test.YthpdemfehkoniaaWFootNe
import Derived.Test.YthpdemfehkoniaaWAt
import Derived.Test.YthpdemfehkoniaaWEqStruct
import Derived.Test.YthpdemfehkoniaaWRepsOne
import Derived.Test.YthpdemfehkoniaaWInv
import Derived.Test.YthpdemfehkoniaaWInvWords
import Derived.Test.YthpdemfehkoniaaWGuard
import Derived.Test.YthpdemfehkoniaaWNEv
import Derived.Test.YthpdemfehkoniaaWMore
namespace Go.Proofs.YthpdemfehkoniaaW.AO
open Go.RowKit Go.Proofs.YthpdemfehkoniaaW.PrintWords Go.Proofs.YthpdemfehkoniaaW.PrintLast Go.Proofs.YthpdemfehkoniaaW.PrintMore
set_option linter.unusedVariables false

/-- A row of the call's own: its elements' kind and type, where it lies, what it holds. A box of one value is a row of one. -/
structure Ob where
  {α : Type}
  k : Kd α
  e : Nat
  v : Value
  xs : List α

def AO (w : World) (base : Nat) (L : List Ob) : Prop := ∃ f : Nat → Nat, ∀ (i : Nat) (o : Ob), L[i]? = some o → Kd.R o.k o.e w base (fun b => f b = i) o.v o.xs

section
variable {w w1 W : World} {base : Nat} {L : List Ob} {α : Type} {d : Kd α} {e : Nat} {v v1 : Value} {xs : List α}
theorem AO.nil (w : World) (base : Nat) : AO w base [] := ⟨fun _ => 0, fun i o h => by simp at h⟩
theorem AO.below (h : AO w base L) (hb : Below w.heap.size w w1) : AO w1 base L := by
  obtain ⟨f, h⟩ := h
  exact ⟨f, fun i o hi => Kd.R_below (h i o hi) hb⟩
theorem AO.drewN (h : AO w base L) (n : Nat) : AO (w.drewN n) base L := h.below (pw_below_drewN (Below.refl _ _) n)
theorem AO.drew (h : AO w base L) : AO w.drew base L := h.below (below_drew (Below.refl _ _))
theorem AO.alloc (h : AO w base L) (o : Obj) : AO (w.alloc o) base L := h.below (below_alloc (Below.refl _ _) o)
theorem AO.push {ok : Nat → Prop} (h : AO w base L) (hb : Below w.heap.size w w1) (hB : base ≤ w.heap.size) (ho : d.R e w1 w.heap.size ok v xs) : AO w1 base (⟨d, e, v, xs⟩ :: L) := by
  obtain ⟨f, h⟩ := h
  refine ⟨fun b => if b < w.heap.size then f b + 1 else 0, fun i o hi => ?_⟩
  cases i with
  | zero =>
    obtain rfl : (⟨d, e, v, xs⟩ : Ob) = o := by simpa using hi
    exact Kd.R_mono (Kd.R_lower (Kd.R_bound ho) hB) (fun k hk => by simp only; rw [if_neg (by have := hk.2.1; omega)])
  | succ i =>
    have hi' : L[i]? = some o := by simpa using hi
    exact Kd.R_below (Kd.R_mono (Kd.R_bound (h i o hi')) (fun k hk => by simp only; rw [if_pos hk.2.2.1, hk.1])) hb
/-- An object by itself. -/
theorem AO.own (h : AO w base L) {i : Nat} (hi : L[i]? = some ⟨d, e, v, xs⟩) : d.R e w base (fun _ => True) v xs := by
  obtain ⟨f, h⟩ := h
  exact Kd.R_mono (h i _ hi) (fun _ _ => trivial)
theorem AO.reads (h : AO w base L) {i : Nat} (hi : L[i]? = some ⟨d, e, v, xs⟩) : ∃ A c, v = .slice A xs.length c ∧ xs.length ≤ c ∧ d.C w A xs.length xs := Kd.R_reads (h.own hi)
/-- Some of the objects, in any order. -/
theorem AO.sub {L' : List Ob} (h : AO w base L) (g : Nat → Nat) (hinj : ∀ i j, i < L'.length → j < L'.length → g i = g j → i = j) (hg : ∀ i, i < L'.length → L'[i]? = L[g i]?) : AO w base L' := by
  obtain ⟨f, h⟩ := h
  classical
  refine ⟨fun b => if hx : ∃ i, i < L'.length ∧ g i = f b then hx.choose else L'.length, fun i o hi => ?_⟩
  have hil : i < L'.length := (List.getElem?_eq_some_iff.1 hi).1
  refine Kd.R_mono (h (g i) o (by rw [← hg i hil]; exact hi)) (fun b hb => ?_)
  have hx : ∃ j, j < L'.length ∧ g j = f b := ⟨i, hil, hb.symm⟩
  simp only [dif_pos hx]
  exact hinj _ _ hx.choose_spec.1 hil (hx.choose_spec.2.trans hb)
theorem AO.only (h : AO w base L) {i : Nat} {o : Ob} (hi : L[i]? = some o) : AO w base [o] :=
  h.sub (fun _ => i) (fun a b ha hb _ => by simp at ha hb; omega) (fun j hj => by have : j = 0 := by simpa using hj
                                                                                  subst this; simpa using hi.symm)
theorem AO.two (h : AO w base L) {i j : Nat} {o p : Ob} (hij : i ≠ j) (hi : L[i]? = some o) (hj : L[j]? = some p) : AO w base [o, p] := by
  refine h.sub (fun k => if k = 0 then i else j) (fun a b ha hb e => ?_) (fun k hk => ?_)
  · have h1 : a < 2 := by simpa using ha
    have h2 : b < 2 := by simpa using hb
    split at e <;> split at e <;> omega
  · match k, hk with
    | 0, _ => simpa using hi.symm
    | 1, _ => simpa using hj.symm
theorem AO.tail {o : Ob} (h : AO w base (o :: L)) : AO w base L := h.sub (fun i => i + 1) (fun i j _ _ e => by simpa using e) (fun i _ => by simp)
theorem AO.skip {o p : Ob} (h : AO w base (o :: p :: L)) : AO w base (o :: L) :=
  h.sub (fun i => if i = 0 then 0 else i + 1) (fun i j _ _ e => by split at e <;> split at e <;> omega) (fun i _ => by cases i <;> simp)
theorem AO.skip2 {o p q : Ob} (h : AO w base (o :: p :: q :: L)) : AO w base (o :: p :: L) :=
  h.sub (fun i => if i ≤ 1 then i else i + 1) (fun i j _ _ e => by split at e <;> split at e <;> omega) (fun i _ => by match i with | 0 => rfl | 1 => rfl | i + 2 => simp)
theorem AO.swap {o p : Ob} (h : AO w base (o :: p :: L)) : AO w base (p :: o :: L) := by
  refine h.sub (fun i => if i = 0 then 1 else if i = 1 then 0 else i) (fun i j _ _ e => ?_) (fun i _ => by match i with | 0 => rfl | 1 => rfl | i + 2 => simp)
  repeat' split at e
  all_goals omega
/-- One object has turned; nothing else but new blocks. -/
theorem AO.upd (h : AO w base L) {i : Nat} {o : Ob} (hi : L[i]? = some o) {row : Option Nat} (hg : w.grownBy w1 row) (hrow : row = o.v.ownBlock ∨ row = none) {d' : Kd α} {e' : Nat}
    (hn : ∀ ok : Nat → Prop, o.k.R o.e w base ok o.v o.xs → (∀ b, w.heap.size ≤ b → ok b) → d'.R e' w1 base ok v1 xs) : AO w1 base (L.set i ⟨d', e', v1, xs⟩) := by
  obtain ⟨f, h⟩ := h
  refine ⟨fun b => if b < w.heap.size then f b else i, fun j p hj => ?_⟩
  rw [List.getElem?_set] at hj
  by_cases hij : i = j
  · subst hij
    rw [if_pos rfl] at hj
    split at hj
    · obtain rfl : (⟨d', e', v1, xs⟩ : Ob) = p := by simpa using hj
      refine Kd.R_mono (hn (fun b => (f b = i ∧ b < w.heap.size) ∨ w.heap.size ≤ b) (Kd.R_mono (Kd.R_bound (h i o hi)) (fun k hk => .inl ⟨hk.1, hk.2.2.1⟩)) (fun b hb => .inr hb)) (fun k hk => ?_)
      simp only
      rcases hk with ⟨h1, h2⟩ | h2
      · rw [if_pos h2, h1]
      · rw [if_neg (by omega)]
    · simp at hj
  · rw [if_neg hij] at hj
    have hp := h j p hj
    refine Kd.R_mono (Kd.R_step (Kd.R_bound hp) (fun k hk hlt => hg.block k hlt ?_)) (fun k hk => by simp only; rw [if_pos hk.2.2.1, hk.1])
    intro hk'
    rcases hrow with hr | hr
    · have := (h i o hi).1 k (by rw [← hr, hk'])
      have h2 := hk.1
      omega
    · rw [hr] at hk'; cases hk'
end

section
variable {P : Program} {ops : Array Oper} {rest : List Oper} {o : Oper} {a : Act} {Q : Exit → Act → World → Prop}
variable {α : Type} {d : Kd α} {w0 W : World} {base e : Nat} {L : List Ob}
/-- 'xs = append(xs, p)', p without rows of its own (or read ones). -/
theorem AO.append (i : Nat) (d : Kd α) (xs : List α) (p : α) (cs : List Value) (hgd : o.guard = none) (s x : Operand) (t e : TypeId) (z : Value) (bytes : Nat) (v : Value)
    (ho : o.op = .call { callee := .builtin .append, args := #[s, x], argTypes := #[t, t] })
    (ht : P.underlying t = some (.slice e)) (hinfo : (P.info? e).map (fun i => (i.zero, i.size, i.bytes)) = some (some z, d.sz, bytes)) (hz : z.cells.size = d.sz) (hs0 : 0 < d.sz) (hb0 : 0 < bytes)
    (hs : a.eval s = v) (hx : a.eval x = .slice (some ⟨W.heap.size, 0, none⟩) 1 1) (hp : d.M W base (fun _ => False) p cs)
    (h : AO W base L) (hi : L[i]? = some ⟨d, e, v, xs⟩) (HB : Below base w0 W) (hbase : base ≤ W.heap.size) (hl : (xs.length + 1) * bytes ≤ 140737488355328)
    (k : ∀ v1 w1, AO w1 base (L.set i ⟨d, e, v1, xs ++ [p]⟩) → Below base w0 w1 → W.heap.size ≤ w1.heap.size → wpList P ops Q rest (a.put o.dst v1) w1) :
    wpList P ops Q (o :: rest) a (W.alloc (.cells cs.toArray e)) := by
  obtain ⟨f, hf⟩ := h
  refine Kd.R_append d base hgd s x t e z bytes ho ht hinfo hz hs0 hb0 v xs p cs (fun b => (f b = i ∧ b < W.heap.size) ∨ W.heap.size ≤ b) (fun _ => False) hs hx hp (fun _ hk => hk.elim) (fun _ hk => .inr hk)
    (Kd.R_mono (Kd.R_bound (hf i _ hi)) (fun k hk => .inl ⟨hk.1, hk.2.2.1⟩)) HB hbase hl ?_
  intro v1 w1 hR hB hg hat
  refine k v1 w1 ?_ hB hg.size
  refine ⟨fun b => if b < W.heap.size then f b else i, fun j q hj => ?_⟩
  rw [List.getElem?_set] at hj
  by_cases hij : i = j
  · subst hij
    rw [if_pos rfl] at hj
    split at hj
    · obtain rfl : (⟨d, e, v1, xs ++ [p]⟩ : Ob) = q := by simpa using hj
      refine Kd.R_mono hR (fun k hk => ?_)
      simp only
      rcases hk with ⟨h1, h2⟩ | h2
      · rw [if_pos h2, h1]
      · rw [if_neg (by omega)]
    · simp at hj
  · rw [if_neg hij] at hj
    refine Kd.R_mono (Kd.R_step (Kd.R_bound (hf j q hj)) (fun k hk hlt => hg.block k hlt ?_)) (fun k hk => by simp only; rw [if_pos hk.2.2.1, hk.1])
    intro hk'
    have h1 := (hf i _ hi).1 k hk'.symm
    have h2 := hk.1
    omega
/-- A call that hands back a row of its own. -/
theorem AO.alloc_box (d : Kd α) (xs : List α) (cs : Array Value) (n e : Nat) (hn : xs.length = n) (hm : n ≤ 9223372036854775807) (hp : Reps (d.M W W.heap.size (fun _ => False)) d.sz xs cs.toList) (h : AO W base L) (hbase : base ≤ W.heap.size) :
    AO (W.alloc (.cells cs e (0, 0))) base (⟨d, e, .slice (some ⟨W.heap.size, 0, none⟩) n n, xs⟩ :: L) := by
  subst hn
  refine h.push (ok := fun _ => True) (below_alloc (Below.refl _ _) _) hbase ⟨fun _ _ => trivial, cs.toList, ?_, ?_⟩
  · have h2 := World.ownsRow_lit (base := W.heap.size) (e := e) (size := d.sz) W cs xs.length (Nat.le_refl _) (by simpa [maxLen] using hm) (by simpa using hp.1)
    simpa using h2
  · exact hp.imp_ (fun p c hM => d.M_mono (fun _ hk => hk.elim) (Kd.M_below hM (below_alloc (Below.refl _ _) _)))
/-- A literal '[]T{..}'. -/
theorem AO.lit (d : Kd α) (e : Nat) (hgd : o.guard = none) (N : Tmp) (hd : o.dst = some N) {xs : List α} {inner : List Value}
    (hrun : (execOp a.eval o).run P W = .ok (.value (.slice (some ⟨W.heap.size, 0, none⟩) xs.length xs.length)) (W.alloc (.cells inner.toArray e)))
    (hrep : Reps (d.M W W.heap.size (fun _ => False)) d.sz xs inner) (h : AO W base L) (HB : Below base w0 W) (hbase : base ≤ W.heap.size) (hm : xs.length ≤ 9223372036854775807)
    (k : ∀ v1 w1, AO w1 base (⟨d, e, v1, xs⟩ :: L) → Below base w0 w1 → W.heap.size ≤ w1.heap.size → wpList P ops Q rest (a.put o.dst v1) w1) : wpList P ops Q (o :: rest) a W :=
  Kd.R_lit d W.heap.size e hgd hd (ok := fun _ => True) (okp := fun _ => False) (w0 := W) hrun hrep (fun _ hk => hk.elim) trivial (Below.refl _ _) (Nat.le_refl _) hm
    (fun v1 w1 hR hB _ _ => k v1 w1 (h.push hB hbase hR) (below_then HB hbase hB) hB.size)
/-- 'make([]T, n)': every element is z0. -/
theorem AO.make (d : Kd α) (e : Nat) (hgd : o.guard = none) (N : Tmp) (hd : o.dst = some N) (t : TypeId) (x y : Operand) (ho : o.op = .makeSlice t x y) (n : Int) (hx : a.eval x = .int .i64 n) (hy : a.eval y = .int .i64 n)
    (ht : P.underlying t = some (.slice e)) (z : Value) (bytes : Nat) (hinfo : (P.info? e).map (fun i => (i.zero, i.size, i.bytes)) = some (some z, d.sz, bytes)) (hz : z.cells.size = d.sz) (hs0 : 0 < d.sz) (hb0 : 0 < bytes)
    (z0 : α) (hzero : d.M W W.heap.size (fun _ => False) z0 z.cells.toList) (h0 : 0 ≤ n) (hl : n.toNat * bytes ≤ 281474976710656) (h : AO W base L) (HB : Below base w0 W) (hbase : base ≤ W.heap.size)
    (k : ∀ v1 w1, AO w1 base (⟨d, e, v1, List.replicate n.toNat z0⟩ :: L) → Below base w0 w1 → W.heap.size ≤ w1.heap.size → wpList P ops Q rest (a.put o.dst v1) w1) : wpList P ops Q (o :: rest) a W :=
  Kd.R_make d W.heap.size e hgd hd t x y ho n hx hy ht z bytes hinfo hz hs0 hb0 z0 (ok := fun _ => True) (okp := fun _ => False) (w0 := W) hzero (fun _ hk => hk.elim) trivial h0 hl (Below.refl _ _) (Nat.le_refl _)
    (fun v1 w1 hR hB _ _ => k v1 w1 (h.push hB hbase hR) (below_then HB hbase hB) hB.size)
/-- 'make([]T, 0, c)'. -/
theorem AO.make0 (d : Kd α) (e : Nat) (hgd : o.guard = none) (N : Tmp) (hd : o.dst = some N) (t : TypeId) (y : Operand) (ho : o.op = .makeSlice t (.const (.int .i64 0)) y) (c : Nat) (hy : a.eval y = .int .i64 (c : Int))
    (ht : P.underlying t = some (.slice e)) (z : Value) (bytes : Nat) (hinfo : (P.info? e).map (fun i => (i.zero, i.size, i.bytes)) = some (some z, d.sz, bytes)) (hb0 : 0 < bytes)
    (hl : c * bytes ≤ 281474976710656) (h : AO W base L) (HB : Below base w0 W) (hbase : base ≤ W.heap.size)
    (k : ∀ v1 w1, AO w1 base (⟨d, e, v1, []⟩ :: L) → Below base w0 w1 → W.heap.size ≤ w1.heap.size → wpList P ops Q rest (a.put o.dst v1) w1) : wpList P ops Q (o :: rest) a W := by
  obtain ⟨i0, hi, hzz⟩ := Option.map_eq_some_iff.1 hinfo
  simp only [Prod.mk.injEq] at hzz
  obtain ⟨hz0, hz1, hz2⟩ := hzz
  have hc : c ≤ 281474976710656 := Nat.le_trans (Nat.le_mul_of_pos_right _ hb0) hl
  obtain ⟨w1, hr, ho1, hg⟩ := run_make_own (P := P) W W.heap.size t e i0 z d.sz ht hi hz0 hz1 .i64 .i64 c (by rw [hz2, Nat.mul_comm]; exact hl) (by unfold maxLen; omega) (Nat.le_refl _)
  have hB : Below W.heap.size W w1 := ⟨hg.os, hg.tape, hg.output, hg.size, fun i hi => hg.block i hi (by simp)⟩
  refine Kd.event_run hgd (v := .slice (some ⟨W.heap.size, 0, none⟩) 0 c) (w1 := w1) ?_ (k _ w1 (h.push (ok := fun _ => True) hB hbase ⟨fun _ _ => trivial, [], ho1, Reps.none _ _⟩) (below_then HB hbase hB) hB.size)
  have e0 : a.eval (.const (.int .i64 0)) = .int .i64 0 := rfl
  simp [execOp, ho, e0, hy, hr]
/-- A variable in memory: a box (a row of n values that the pointer leads to). -/
theorem AO.box (d : Kd α) (xs : List α) (n : Nat) (hgd : o.guard = none) (N : Tmp) (hd : o.dst = some N) {cs : Array Value} {t : TypeId}
    (hrun : (execOp a.eval o).run P W = .ok (.value (.pointer (some ⟨W.heap.size, 0, none⟩))) (W.alloc (.cells cs t (0, 0))))
    (hn : xs.length = n) (hm : n ≤ 9223372036854775807) (hp : Reps (d.M W W.heap.size (fun _ => False)) d.sz xs cs.toList) (h : AO W base L) (HB : Below base w0 W) (hbase : base ≤ W.heap.size)
    (k : ∀ g w1, AO w1 base (⟨d, t, .slice (some ⟨g, 0, none⟩) n n, xs⟩ :: L) → Below base w0 w1 → W.heap.size ≤ w1.heap.size → base ≤ g → wpList P ops Q rest (a.put o.dst (.pointer (some ⟨g, 0, none⟩))) w1) : wpList P ops Q (o :: rest) a W :=
  Kd.event_run hgd hrun (k _ _ (AO.alloc_box d xs cs n t hn hm hp h hbase) (HB.alloc hbase _) (by simp) hbase)
end
section
variable {W : World} {base e n cap g : Nat} {L : List Ob} {α : Type} {d : Kd α} {xs : List α}
theorem AO.form {v : Value} (h : AO W base L) {i : Nat} (hi : L[i]? = some ⟨d, e, v, xs⟩) (hp : 0 < xs.length) : ∃ g cap, v = .slice (some ⟨g, 0, none⟩) xs.length cap ∧ base ≤ g := by
  obtain ⟨g, cap, he, hb, _⟩ := Kd.R_form (h.own hi) hp
  exact ⟨g, cap, he, hb⟩
theorem AO.elem (h : AO W base L) {i : Nat} (hi : L[i]? = some ⟨d, e, .slice (some ⟨g, 0, none⟩) n cap, xs⟩) (z : α) (j : Int) (h0 : 0 ≤ j) (h1 : j < n) :
    ∃ c, c.length = d.sz ∧ d.M W base (fun _ => True) (xs.getD j.toNat z) c ∧ (∀ q u, c[q]? = some u → W.cell? ⟨g, j.toNat * d.sz + q, none⟩ = some u) ∧ ∀ q, W.frozen? ⟨g, j.toNat * d.sz + q, none⟩ = false := by
  obtain ⟨c, hc, hM, hcc, hf⟩ := Kd.R_elem (h.own hi) z j h0 h1
  exact ⟨c, hc, d.M_mono (fun _ _ => trivial) hM, hcc, hf⟩
theorem AO.len (h : AO W base L) {i : Nat} (hi : L[i]? = some ⟨d, e, .slice (some ⟨g, 0, none⟩) n cap, xs⟩) : n = xs.length := (Kd.R_reads' (h.own hi)).1
/-- A store of a whole element (flat, or leading to what is only read). -/
theorem AO.put (h : AO W base L) {i : Nat} (hi : L[i]? = some ⟨d, e, .slice (some ⟨g, 0, none⟩) n cap, xs⟩) (z : α) (j : Int) (h0 : 0 ≤ j) (h1 : j < n) {x' : α} {seg : List Value} (hs : seg.length = d.sz)
    (hM : d.M W base (fun _ => False) x' seg) : AO (W.setCells g (j.toNat * d.sz) seg) base (L.set i ⟨d, e, .slice (some ⟨g, 0, none⟩) n cap, xs.set j.toNat x'⟩) := by
  have hseg : ∀ ok : Nat → Prop, d.R e W base ok (.slice (some ⟨g, 0, none⟩) n cap) xs →
      d.R e (W.setCells g (j.toNat * d.sz) seg) base ok (.slice (some ⟨g, 0, none⟩) n cap) (xs.set j.toNat x') ∧ W.grownBy (W.setCells g (j.toNat * d.sz) seg) (some g) := by
    intro ok hR
    obtain ⟨c, hc, _, hcc, _⟩ := Kd.R_elem hR z j h0 h1
    have h2 := Kd.R_seg hR j h0 h1 (seg := seg) (j := 0) hc hcc (by omega) (x' := x') (okp := fun _ => False) (by
      rw [List.take_zero, List.nil_append, Nat.zero_add, hs, List.drop_of_length_le (by omega), List.append_nil]; exact hM) (fun _ hk => hk.elim)
    simpa using h2
  exact h.upd hi (hseg _ (h.own hi)).2 (.inl rfl) (fun ok hR _ => (hseg ok hR).1)
end
section
variable {P : Program} {ops : Array Oper} {rest : List Oper} {o : Oper} {a : Act} {Q : Exit → Act → World → Prop}
variable {α : Type} {w w1 w0 W : World} {base : Nat} {L : List Ob}
/-- Something of a type that no object has has turned. -/
theorem AO.other (h : AO w base L) {row : Option Nat} (hg : w.grownBy w1 row) {t : Nat} (hrow : ∀ k, row = some k → ∃ cells, w.heap[k]? = some (.cells cells t (0, 0))) (hne : ∀ o, o ∈ L → ∀ q, q ∈ o.e :: o.k.E → q ≠ t) : AO w1 base L := by
  obtain ⟨f, h⟩ := h
  refine ⟨f, fun i o hi => ?_⟩
  refine Kd.R_mono (Kd.R_move (Kd.R_bound (h i o hi)) (fun k hk => hg.block k hk.2.2.1 (fun he => ?_))) (fun _ hk => hk.1)
  obtain ⟨_, _, _, q, hq, cells, hc⟩ := hk
  obtain ⟨cells', hc'⟩ := hrow k he.symm
  rw [hc] at hc'
  injection hc' with hc'
  injection hc' with _ hc'
  exact hne o (List.mem_of_getElem? hi) q hq hc'
/-- 'xs[i] = append(xs[i], p)', xs a row of rows that share no block; the append; the store is the walk's. -/
theorem AO.appin (d1 : Kd α) (e1 e : Nat) (xs : List (List α)) (g n cap : Nat) (i : Int) (p : α) (cs : List Value) (hgd : o.guard = none) (s x : Operand) (t : TypeId) (z : Value) (bytes : Nat) (v : Value)
    (ho : o.op = .call { callee := .builtin .append, args := #[s, x], argTypes := #[t, t] })
    (ht : P.underlying t = some (.slice e1)) (hinfo : (P.info? e1).map (fun i => (i.zero, i.size, i.bytes)) = some (some z, d1.sz, bytes)) (hz : z.cells.size = d1.sz) (hs0 : 0 < d1.sz) (hb0 : 0 < bytes)
    (hs : a.eval s = v) (hx : a.eval x = .slice (some ⟨W.heap.size, 0, none⟩) 1 1) (hp : d1.M W base (fun _ => False) p cs) (hv : W.cell? ⟨g, i.toNat, none⟩ = some v)
    (hS : Kd.S (Kd.slice e1 d1) e W base (fun _ => True) (.slice (some ⟨g, 0, none⟩) n cap) xs) (h0 : 0 ≤ i) (h1 : i < n)
    (h : AO W base L) (hne : ∀ o, o ∈ L → ∀ q, q ∈ o.e :: o.k.E → q ≠ e ∧ q ≠ e1) (HB : Below base w0 W) (hbase : base ≤ W.heap.size) (hl : ((xs.getD i.toNat []).length + 1) * bytes ≤ 140737488355328)
    (k : ∀ A m c w1, AO (w1.setCell ⟨g, i.toNat, none⟩ (.slice A m c)) base L → Kd.S (Kd.slice e1 d1) e (w1.setCell ⟨g, i.toNat, none⟩ (.slice A m c)) base (fun _ => True) (.slice (some ⟨g, 0, none⟩) n cap) (xs.set i.toNat (xs.getD i.toNat [] ++ [p])) →
      Below base w0 (w1.setCell ⟨g, i.toNat, none⟩ (.slice A m c)) → w1.cell? ⟨g, i.toNat, none⟩ = some v → w1.frozen? ⟨g, i.toNat, none⟩ = false → wpList P ops Q rest (a.put o.dst (.slice A m c)) w1) :
    wpList P ops Q (o :: rest) a (W.alloc (.cells cs.toArray e1)) := by
  obtain ⟨oki, ce, hcl, ⟨vi, rfl, hR⟩, hcc, _, _, hH⟩ := Kd.S_elem hS [] i h0 h1
  have hcc0 : W.cell? ⟨g, i.toNat, none⟩ = some vi := by simpa [Kd.slice] using hcc 0 vi rfl
  obtain rfl : vi = v := by rw [hcc0] at hv; exact Option.some.inj hv
  refine Kd.R_append d1 base hgd s x t e1 z bytes ho ht hinfo hz hs0 hb0 vi _ p cs (fun k => oki k ∨ True ∧ W.heap.size ≤ k) (fun _ => False) hs hx hp (fun _ hk => hk.elim) (fun _ hk => .inr ⟨trivial, hk⟩)
    (Kd.R_mono hR (fun _ hk => .inl hk)) HB hbase hl ?_
  intro v1 w1 hR1 hB1 hg hat
  obtain ⟨A, c, rfl⟩ := Kd.R_slice hR1
  have hH1 := Kd.H_grown (Kd.H_widen hH) hg (fun k e_ => .inl (hR.1 k e_))
  have hb : base ≤ g := Kd.S_base hS g rfl
  obtain ⟨_, _, hraw, _, _, hcc1, _⟩ := Kd.H_raw hH1 h0 h1
  obtain ⟨_, hfr⟩ := Kd.H_at hH1 h0 h1
  have hc1 : w1.cell? ⟨g, i.toNat, none⟩ = some vi := by simpa [Kd.slice] using hcc1 0 vi rfl
  have hf1 : w1.frozen? ⟨g, i.toNat, none⟩ = false := by simpa [Kd.slice] using hfr 0
  have hP := Kd.S_seg0 hH1 h0 h1 (seg := [.slice A (xs.getD i.toNat [] ++ [p]).length c]) (j := 0) (show 1 ≤ 1 from Nat.le_refl _) (x' := xs.getD i.toNat [] ++ [p]) (Kd.M_row hR1) (fun _ hk => hk)
  have hP' : Kd.S (Kd.slice e1 d1) e (w1.setCell ⟨g, i.toNat, none⟩ (.slice A (xs.getD i.toNat [] ++ [p]).length c)) base (fun _ => True) (.slice (some ⟨g, 0, none⟩) n cap) (xs.set i.toNat (xs.getD i.toNat [] ++ [p])) ∧ w1.grownBy (w1.setCell ⟨g, i.toNat, none⟩ (.slice A (xs.getD i.toNat [] ++ [p]).length c)) (some g) := by
    simpa [Kd.slice, World.setCells] using hP
  refine k A _ c w1 ?_ hP'.1 (hB1.grown hP'.2 (Nat.le_trans hbase hg.size) (fun k hk => by cases hk; exact hb)) hc1 hf1
  have hA1 : AO w1 base L := h.other hg (t := e1) (fun k hk => Kd.R_typed hR k hk) (fun o ho q hq => (hne o ho q hq).2)
  exact hA1.other hP'.2 (t := e) (fun k hk => Kd.R_typed hraw k hk) (fun o ho q hq => (hne o ho q hq).1)
end
section
variable {W w0 : World} {base e n cap g : Nat} {L : List Ob} {α : Type} {enc : α → Value} {hone : ∀ x, (enc x).oneCell' = true} {xs : List α}
/-- Rows of scalars: a cell, and a store. -/
theorem AO.get1 (h : AO W base L) {i : Nat} (hi : L[i]? = some ⟨Kd.scalar enc hone, e, .slice (some ⟨g, 0, none⟩) n cap, xs⟩) (d : α) (j : Int) (h0 : 0 ≤ j) (h1 : j < n) :
    W.cell? ⟨g, j.toNat, none⟩ = some (enc (rdOf d xs j)) ∧ W.frozen? ⟨g, j.toNat, none⟩ = false := Kd.R_celln d (h.own hi) j h0 h1
theorem AO.put1 (h : AO W base L) {i : Nat} (hi : L[i]? = some ⟨Kd.scalar enc hone, e, .slice (some ⟨g, 0, none⟩) n cap, xs⟩) (j : Int) (x : α) (HB : Below base w0 W) :
    AO (W.setCell ⟨g, j.toNat, none⟩ (enc x)) base (L.set i ⟨Kd.scalar enc hone, e, .slice (some ⟨g, 0, none⟩) n cap, xs.set j.toNat x⟩) ∧ W.grownBy (W.setCell ⟨g, j.toNat, none⟩ (enc x)) (Value.slice (some ⟨g, 0, none⟩) n cap).ownBlock ∧
      (∀ k, (Value.slice (some ⟨g, 0, none⟩) n cap).ownBlock = some k → ∃ cells, W.heap[k]? = some (.cells cells e (0, 0))) ∧ Below base w0 (W.setCell ⟨g, j.toNat, none⟩ (enc x)) :=
  ⟨h.upd hi (Kd.R_putg (h.own hi) j x).2 (.inl rfl) (fun ok hR _ => (Kd.R_putg hR j x).1), (Kd.R_putg (h.own hi) j x).2, Kd.R_typed (h.own hi), HB.setCell (Kd.R_base (h.own hi) g rfl) _⟩
end
section
variable {P : Program} {ops : Array Oper} {rest : List Oper} {o : Oper} {a : Act} {Q : Exit → Act → World → Prop}
variable {α : Type} {w0 W : World} {base : Nat} {L : List Ob}
/-- A literal that is only read (its elements may be rows that are read). -/
theorem AO.litK (d : Kd α) (e : Nat) (hgd : o.guard = none) (N : Tmp) (hd : o.dst = some N) {xs : List α} {inner : List Value}
    (hrun : (execOp a.eval o).run P W = .ok (.value (.slice (some ⟨W.heap.size, 0, none⟩) xs.length xs.length)) (W.alloc (.cells inner.toArray e)))
    (hrep : Reps (d.K W) d.sz xs inner) (h : AO W base L) (HB : Below base w0 W) (hbase : base ≤ W.heap.size) (hm : xs.length ≤ 9223372036854775807)
    (k : ∀ A c w1, xs.length ≤ c → d.C w1 A xs.length xs → AO w1 base L → Below base w0 w1 → Below W.heap.size W w1 → wpList P ops Q rest (a.put o.dst (.slice A xs.length c)) w1) : wpList P ops Q (o :: rest) a W := by
  refine Kd.event_run hgd hrun (k _ _ _ (Nat.le_refl _) ⟨rfl, hm, fun _ => ⟨_, rfl, fun j p hj => ?_⟩⟩ (h.alloc _) (HB.alloc hbase _) (below_alloc (Below.refl _ _) _))
  have hjl : j < xs.length := (List.getElem?_eq_some_iff.1 hj).1
  have hle : j * d.sz + d.sz ≤ inner.length := by rw [hrep.1, ← Nat.succ_mul]; exact Nat.mul_le_mul_right _ hjl
  refine ⟨(inner.drop (j * d.sz)).take d.sz, by rw [List.length_take, List.length_drop]; omega, d.K_below (below_alloc (Below.refl _ _) _) (hrep.2 j p hj), fun i u hu => ?_⟩
  have hil : i < d.sz := by
    have := (List.getElem?_eq_some_iff.1 hu).1
    rw [List.length_take] at this
    omega
  rw [List.getElem?_take_of_lt hil, List.getElem?_drop] at hu
  have e1 : (⟨W.heap.size, 0, none⟩ : Addr).add (j * d.sz + i) = ⟨W.heap.size, j * d.sz + i, none⟩ := by
    unfold Addr.add
    split
    · rename_i h0; rw [h0]
    · simp
  rw [e1, blk_cell (blk_new W (.cells inner.toArray e)) (j * d.sz + i)]
  simpa using hu
end
section
variable {P : Program} {ops : Array Oper} {rest : List Oper} {o : Oper} {a : Act} {Q : Exit → Act → World → Prop}
variable {α : Type} {w0 W : World} {base e : Nat} {L : List Ob}
/-- 'xs = append(xs, ys...)', ys a row that is read, its elements flat. -/
theorem AO.appendRows (i : Nat) (d : Kd α) (xs ys : List α) (A : Option Addr) (m c : Nat) (hgd : o.guard = none) (s x : Operand) (t e : TypeId) (z : Value) (bytes : Nat) (v : Value)
    (ho : o.op = .call { callee := .builtin .append, args := #[s, x], argTypes := #[t, t] })
    (ht : P.underlying t = some (.slice e)) (hinfo : (P.info? e).map (fun i => (i.zero, i.size, i.bytes)) = some (some z, d.sz, bytes)) (hz : z.cells.size = d.sz) (hs0 : 0 < d.sz) (hb0 : 0 < bytes)
    (hs : a.eval s = v) (hx : a.eval x = .slice A m c) (hC : d.C W A m ys) (hKM : ∀ x cs, d.K W x cs → d.M W base (fun _ => False) x cs)
    (h : AO W base L) (hi : L[i]? = some ⟨d, e, v, xs⟩) (HB : Below base w0 W) (hbase : base ≤ W.heap.size) (hl : (xs.length + m) * bytes ≤ 140737488355328)
    (k : ∀ v1 w1, AO w1 base (L.set i ⟨d, e, v1, xs ++ ys⟩) → Below base w0 w1 → W.heap.size ≤ w1.heap.size → wpList P ops Q rest (a.put o.dst v1) w1) :
    wpList P ops Q (o :: rest) a W := by
  obtain ⟨f, hf⟩ := h
  refine Kd.R_append_rows d (Rr := d.K W) base hgd s x t e z bytes ho ht hinfo hz hs0 hb0 v xs ys A m c (fun b => (f b = i ∧ b < W.heap.size) ∨ W.heap.size ≤ b) (fun _ => False) hs hx
    (Kd.R_mono (Kd.R_bound (hf i _ hi)) (fun k hk => .inl ⟨hk.1, hk.2.2.1⟩)) hC hKM (fun _ hk => hk.elim) (fun _ hk => .inr hk) HB hbase hl ?_
  intro v1 w1 hR hB hg hat
  refine k v1 w1 ?_ hB hg.size
  refine ⟨fun b => if b < W.heap.size then f b else i, fun j q hj => ?_⟩
  rw [List.getElem?_set] at hj
  by_cases hij : i = j
  · subst hij
    rw [if_pos rfl] at hj
    split at hj
    · obtain rfl : (⟨d, e, v1, xs ++ ys⟩ : Ob) = q := by simpa using hj
      refine Kd.R_mono hR (fun k hk => ?_)
      simp only
      rcases hk with ⟨h1, h2⟩ | h2
      · rw [if_pos h2, h1]
      · rw [if_neg (by omega)]
    · simp at hj
  · rw [if_neg hij] at hj
    refine Kd.R_mono (Kd.R_step (Kd.R_bound (hf j q hj)) (fun k hk hlt => hg.block k hlt ?_)) (fun k hk => by simp only; rw [if_pos hk.2.2.1, hk.1])
    intro hk'
    have h1 := (hf i _ hi).1 k hk'.symm
    have h2 := hk.1
    omega
end
section
variable {P : Program} {ops : Array Oper} {o : Oper} {a : Act} {Q : Exit → Act → World → Prop} {Kc : Act → World → Prop}
variable {α : Type} {w0 W : World} {base e : Nat} {L : List Ob}
/-- The same as a step of a region that draws: 'xs = append(xs, ys...)', ys a row that is read, its elements flat. -/
theorem AO.appendRows_step (i : Nat) (d : Kd α) (xs ys : List α) (A : Option Addr) (m c : Nat) (hw : Region.wanted o (yielded ops a.tmps) = true) (s x : Operand) (t e : TypeId) (z : Value) (bytes : Nat) (v : Value)
    (ho : o.op = .call { callee := .builtin .append, args := #[s, x], argTypes := #[t, t] })
    (ht : P.underlying t = some (.slice e)) (hinfo : (P.info? e).map (fun i => (i.zero, i.size, i.bytes)) = some (some z, d.sz, bytes)) (hz : z.cells.size = d.sz) (hs0 : 0 < d.sz) (hb0 : 0 < bytes)
    (hs : a.eval s = v) (hx : a.eval x = .slice A m c) (hC : d.C W A m ys) (hKM : ∀ x cs, d.K W x cs → d.M W base (fun _ => False) x cs)
    (h : AO W base L) (hi : L[i]? = some ⟨d, e, v, xs⟩) (HB : Below base w0 W) (hbase : base ≤ W.heap.size) (hl : (xs.length + m) * bytes ≤ 140737488355328)
    (k : ∀ v1 w1, AO w1 base (L.set i ⟨d, e, v1, xs ++ ys⟩) → Below base w0 w1 → W.heap.size ≤ w1.heap.size → Kc (a.put o.dst v1) w1) :
    if Region.wanted o (yielded ops a.tmps) = true then Oper.wp P o a W Kc Q else Kc (a.put o.dst undef) W := by
  obtain ⟨f, hf⟩ := h
  refine Kd.R_append_rows_step d (Rr := d.K W) base hw s x t e z bytes ho ht hinfo hz hs0 hb0 v xs ys A m c (fun b => (f b = i ∧ b < W.heap.size) ∨ W.heap.size ≤ b) (fun _ => False) hs hx
    (Kd.R_mono (Kd.R_bound (hf i _ hi)) (fun k hk => .inl ⟨hk.1, hk.2.2.1⟩)) hC hKM (fun _ hk => hk.elim) (fun _ hk => .inr hk) HB hbase hl ?_
  intro v1 w1 hR hB hg hat
  refine k v1 w1 ?_ hB hg.size
  refine ⟨fun b => if b < W.heap.size then f b else i, fun j q hj => ?_⟩
  rw [List.getElem?_set] at hj
  by_cases hij : i = j
  · subst hij
    rw [if_pos rfl] at hj
    split at hj
    · obtain rfl : (⟨d, e, v1, xs ++ ys⟩ : Ob) = q := by simpa using hj
      refine Kd.R_mono hR (fun k hk => ?_)
      simp only
      rcases hk with ⟨h1, h2⟩ | h2
      · rw [if_pos h2, h1]
      · rw [if_neg (by omega)]
    · simp at hj
  · rw [if_neg hij] at hj
    refine Kd.R_mono (Kd.R_step (Kd.R_bound (hf j q hj)) (fun k hk hlt => hg.block k hlt ?_)) (fun k hk => by simp only; rw [if_pos hk.2.2.1, hk.1])
    intro hk'
    have h1 := (hf i _ hi).1 k hk'.symm
    have h2 := hk.1
    omega
/-- A literal, as a step of a region that draws. -/
theorem AO.lit_step (d : Kd α) (e : Nat) (hw : Region.wanted o (yielded ops a.tmps) = true) (N : Tmp) (hd : o.dst = some N) {xs : List α} {inner : List Value}
    (hrun : (execOp a.eval o).run P W = .ok (.value (.slice (some ⟨W.heap.size, 0, none⟩) xs.length xs.length)) (W.alloc (.cells inner.toArray e)))
    (hrep : Reps (d.M W W.heap.size (fun _ => False)) d.sz xs inner) (h : AO W base L) (HB : Below base w0 W) (hbase : base ≤ W.heap.size) (hm : xs.length ≤ 9223372036854775807)
    (k : ∀ v1 w1, AO w1 base (⟨d, e, v1, xs⟩ :: L) → Below base w0 w1 → W.heap.size ≤ w1.heap.size → Kc (a.put o.dst v1) w1) :
    if Region.wanted o (yielded ops a.tmps) = true then Oper.wp P o a W Kc Q else Kc (a.put o.dst undef) W :=
  Kd.R_lit_step d W.heap.size e hw hd (ok := fun _ => True) (okp := fun _ => False) (w0 := W) hrun hrep (fun _ hk => hk.elim) trivial (Below.refl _ _) (Nat.le_refl _) hm
    (fun v1 w1 hR hB _ _ => k v1 w1 (h.push hB hbase hR) (below_then HB hbase hB) hB.size)
end
end Go.Proofs.YthpdemfehkoniaaW.AO
