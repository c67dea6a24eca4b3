/- PoolBytes: what holds ahead of each round. No condition. -/
import Derived.Test.YtdgcmihnbkamgaaPoolZ
namespace Go.Proofs.Ytdgcmihnbkamgaa
open Go.RowKit
set_option linter.unusedVariables false
set_option linter.unusedSimpArgs false
open Classical in
theorem perm_of {l l' : List Item} (h : ∀ x : Item, l.count x = l'.count x) : l.Perm l' := List.perm_iff_count.2 h
open Classical in
theorem perm_round (a b c d e f g : Item) (x y : List Item) : (a :: b :: c :: d :: e :: f :: g :: (x ++ y)).Perm (c :: g :: e :: d :: a :: ((x ++ [f]) ++ (y ++ [b]))) := by
  refine perm_of fun i => ?_
  simp only [List.count_cons, List.count_append, List.count_nil]
  omega
theorem rowsI_append (D E : List (Value × List Int)) : rowsI (D ++ E) = rowsI D ++ rowsI E := by unfold rowsI; rw [List.map_append]
/-- Everything that the statement keeps, the pools in one. -/
def items (pb rb : Nat) (All : List Md) (v5 v6 v7 : Value) (OUT : List (Value × List UInt8)) (WT : List (Value × List Int)) : List Item :=
  pairItem pb rb All :: rowItem 26 1 v5 OUT.length (OUT.map (·.1)) :: rowItem 9 1 v6 OUT.length (OUT.map fun r => strV r.2) :: rowItem 49 1 v7 WT.length (WT.map (·.1)) :: (rowsB OUT ++ rowsI WT)
structure Nums (All : List Md) (OUT : List (Value × List UInt8)) (WT : List (Value × List Int)) (a i : Nat) : Prop where
  len : All.length ≤ a
  bnd : BndB All
  out : OUT.length ≤ i
  outs : ∀ r, r ∈ OUT → r.2.length ≤ 140737488351232
  wts : WT.length ≤ i
  wtss : ∀ r, r ∈ WT → r.2.length ≤ 2199023255552
theorem Nums.step {All : List Md} {OUT : List (Value × List UInt8)} {WT : List (Value × List Int)} {a i : Nat} (h : Nums All OUT WT a i) {r : Value × List UInt8} (hr : r.2.length ≤ 140737488351232) {s : Value × List Int} (hs : s.2.length ≤ 2199023255552) : Nums All (OUT ++ [r]) (WT ++ [s]) a (i + 1) := by
  refine ⟨h.len, h.bnd, ?_, fun x hx => ?_, ?_, fun x hx => ?_⟩
  · rw [List.length_append]; have := h.out; simp; omega
  · rcases List.mem_append.1 hx with hx | hx
    · exact h.outs x hx
    · obtain rfl := List.mem_singleton.1 hx
      exact hr
  · rw [List.length_append]; have := h.wts; simp; omega
  · rcases List.mem_append.1 hx with hx | hx
    · exact h.wtss x hx
    · obtain rfl := List.mem_singleton.1 hx
      exact hs
theorem waits_len (All : List Md) : (waits All).length ≤ All.length := waitsTo_le All All.length
/-- A fresh pool, a fresh pool of the document's, no rows. -/
theorem items_start {w w1 w2 w3 : World} {pb : Nat} (h1 : Below w.heap.size w w1) (hp : PoolAt w2 (fun b => w1.heap.size ≤ b) pb []) (h2 : Below w1.heap.size w1 w2) (e3 : w2.alloc (.cells #[.slice none 0 0] 43) = w3) : Fam w3 (fun b => b < w.heap.size) (items pb w2.heap.size [] (.slice none 0 0) (.slice none 0 0) (.slice none 0 0) [] []) ∧ Below w.heap.size w w3 := by
  have hs1 := h1.size
  have hs2 := h2.size
  have a0 : Fam w1 (fun b => b < w.heap.size) [] := Fam.nil fun b hb => by omega
  have a1 := a0.add h2 (poolItem pb []) hp
  have hb3 : Below w2.heap.size w2 w3 := by rw [← e3]; exact (Below.refl _ _).alloc (Nat.le_refl _) _
  have a2 := a1.add hb3 (refItem w2.heap.size []) ⟨_, (by rw [← e3]; exact heap_alloc_new w2 _), Nat.le_refl _, ⟨by simp [mdCells], .inl ⟨rfl, rfl⟩⟩, (fun k hk => by cases hk)⟩
  have a3 := a2.swap.join
  have hn : ∀ e : TypeId, ∀ l, Fam w3 (fun b => b < w.heap.size) l → Fam w3 (fun b => b < w.heap.size) (rowItem e 1 (.slice none 0 0) 0 [] :: l) := fun e l h => h.add (Below.refl _ _) (rowItem e 1 (.slice none 0 0) 0 []) ⟨World.ownsRow_nil _ _ _ _, fun k hk => by cases hk⟩
  refine ⟨?_, (h1.trans (h2.mono hs1)).trans (hb3.mono (by omega))⟩
  have a4 := hn 26 _ (hn 9 _ (hn 49 _ a3))
  exact Fam.pull [rowItem 26 1 (.slice none 0 0) 0 [], rowItem 9 1 (.slice none 0 0) 0 [], rowItem 49 1 (.slice none 0 0) 0 []] [] a4
/-- An append of things that lie anywhere in memory. -/
theorem Fam.put_at {w : World} {ex : Nat → Prop} {l : List Item} {t e : TypeId} {bytes : Nat} {z v : Value} {n : Nat} {cs : List Value} (h : Fam w ex (rowItem e 1 v n cs :: l)) (ty : TypeId) (a : Addr) (m c : Nat) (news : List Value) (hm : news.length = m) (hnews : ∀ (j : Nat) u, news[j]? = some u → w.cell? (a.add j) = some u) (h1 : ∀ u ∈ news, u.oneCell' = true) (ht : Try.prog.underlying t = some (.slice e)) (hinfo : (Try.prog.info? e).map (fun i => (i.zero, i.size, i.bytes)) = some (some z, 1, bytes)) (hz : z.cells.size = 1) (hl : (n + m) * bytes ≤ 140737488355328) (hn : n + m < 9223372036854775807) :
    ∃ A' c' w', (Builtin.append_ #[t, t] ty #[v, .slice (some a) m c]).run Try.prog w = .ok (.slice A' (n + m) c') w' ∧ Fam w' ex (rowItem e 1 (.slice A' (n + m) c') (n + m) (cs ++ news) :: l) ∧ Turn (fun b => ¬ ex b) w w' := by
  obtain ⟨ok, hP, _, hs⟩ := h.turn
  obtain ⟨i0, hi, hz0, hz1, hz2⟩ := info_parts hinfo
  obtain ⟨v', w', hr, ho, hg, _, hat⟩ := run_append_own_at (P := Try.prog) w 0 t ty e i0 z 1 bytes ht hi hz0 hz1 hz2 hz (by decide) v n cs hP.1 a m c news (by omega) hnews h1 (by unfold maxLen; omega) hl (Nat.zero_le _)
  have hR : RowO w' (grow ok w) e 1 v' (n + m) (cs ++ news) := ⟨ho, fun k hk => by
    rcases hat with e1 | e1
    · exact .inl (hP.2 k (by rw [← e1]; exact hk))
    · rw [e1] at hk
      obtain rfl := Option.some.inj hk
      exact .inr (Nat.le_refl _)⟩
  obtain ⟨A', c', rfl, _⟩ := RowO.shape hR
  obtain ⟨hF, hT⟩ := hs w' (rowItem e 1 (.slice A' (n + m) c') (n + m) (cs ++ news)) hR (Turn.of_grown hg fun k hk => .inl (hP.2 k hk))
  exact ⟨A', c', w', hr, hF, hT⟩
theorem Turn.cell {w w' : World} {ex : Nat → Prop} (h : Turn (fun b => ¬ ex b) w w') {a : Addr} {u : Value} (ha : ex a.block) (hc : w.cell? a = some u) : w'.cell? a = some u := by
  rw [World.cell?_of_block (w := w) (h.block _ (World.block_lt_of_cell? w _ hc) (fun k => k ha))]
  exact hc
theorem at_one {w : World} {a : Addr} {x : Value} (h : w.cell? a = some x) : ∀ (j : Nat) u, [x][j]? = some u → w.cell? (a.add j) = some u := fun j u hu => by
  cases j with
  | zero => cases hu; exact h
  | succ j => cases hu
theorem one_of {x : Value} (h : x.oneCell' = true) : ∀ u ∈ [x], u.oneCell' = true := fun u hu => by
  simp at hu
  subst hu
  exact h
/-- One behind 'out', one behind 'want': both things lie ready. -/
theorem push_two {W : World} {ex : Nat → Prop} {a b c : Item} {T : List Item} {v5 v6 : Value} {n : Nat} {cs5 cs6 : List Value} (h : Fam W ex (a :: b :: c :: rowItem 26 1 v5 n cs5 :: rowItem 9 1 v6 n cs6 :: T)) {p1 p2 : Addr} {x y : Value} (h1 : W.cell? p1 = some x) (h2 : W.cell? p2 = some y) (hp2 : ex p2.block) (hx : x.oneCell' = true) (hy : y.oneCell' = true) (hn : n < 4398046511104) :
    ∃ A5 c5 w6 A6 c6 w7, (Builtin.append_ #[51, 51] 51 #[v5, .slice (some p1) 1 1]).run Try.prog W = .ok (.slice A5 (n + 1) c5) w6 ∧ (Builtin.append_ #[46, 46] 46 #[v6, .slice (some p2) 1 1]).run Try.prog w6 = .ok (.slice A6 (n + 1) c6) w7 ∧ Fam w7 ex (rowItem 9 1 (.slice A6 (n + 1) c6) (n + 1) (cs6 ++ [y]) :: rowItem 26 1 (.slice A5 (n + 1) c5) (n + 1) (cs5 ++ [x]) :: a :: b :: c :: T) ∧ Turn (fun b => ¬ ex b) W w6 ∧ Turn (fun b => ¬ ex b) w6 w7 := by
  obtain ⟨A5, c5, w6, r6, f6, t6⟩ := Fam.put_at (Fam.pull [a, b, c] _ h) 51 p1 1 1 [x] rfl (at_one h1) (one_of hx) Try.underlying51 info26 (by rfl) (by omega) (by omega)
  obtain ⟨A6, c6, w7, r7, f7, t7⟩ := Fam.put_at (Fam.pull [_, a, b, c] _ f6) 46 p2 1 1 [y] rfl (at_one (t6.cell hp2 h2)) (one_of hy) Try.underlying46 info9 (by rfl) (by omega) (by omega)
  exact ⟨A5, c5, w6, A6, c6, w7, r6, r7, f7, t6, t7⟩
/-- The same, the second thing made between the two. -/
theorem push_two_late {W : World} {ex : Nat → Prop} {a b c : Item} {T : List Item} {v5 v6 : Value} {n : Nat} {cs5 cs6 : List Value} (h : Fam W ex (a :: b :: c :: rowItem 26 1 v5 n cs5 :: rowItem 9 1 v6 n cs6 :: T)) {p1 : Addr} {x y : Value} (h1 : W.cell? p1 = some x) (hx : x.oneCell' = true) (hy : y.oneCell' = true) (hn : n < 4398046511104) :
    ∃ A5 c5 w6 A6 c6 w7, (Builtin.append_ #[51, 51] 51 #[v5, .slice (some p1) 1 1]).run Try.prog W = .ok (.slice A5 (n + 1) c5) w6 ∧ (Builtin.append_ #[46, 46] 46 #[v6, .slice (some ⟨w6.heap.size, 0, none⟩) 1 1]).run Try.prog (w6.alloc (.cells #[y] 9)) = .ok (.slice A6 (n + 1) c6) w7 ∧ Fam w7 ex (rowItem 9 1 (.slice A6 (n + 1) c6) (n + 1) (cs6 ++ [y]) :: rowItem 26 1 (.slice A5 (n + 1) c5) (n + 1) (cs5 ++ [x]) :: a :: b :: c :: T) ∧ Turn (fun b => ¬ ex b) W w6 ∧ Below w6.heap.size w6 (w6.alloc (.cells #[y] 9)) ∧ Turn (fun b => ¬ ex b) (w6.alloc (.cells #[y] 9)) w7 := by
  obtain ⟨A5, c5, w6, r6, f6, t6⟩ := Fam.put_at (Fam.pull [a, b, c] _ h) 51 p1 1 1 [x] rfl (at_one h1) (one_of hx) Try.underlying51 info26 (by rfl) (by omega) (by omega)
  have hal := (Below.refl w6.heap.size w6).alloc (Nat.le_refl _) (.cells #[y] 9)
  obtain ⟨A6, c6, w7, r7, f7, t7⟩ := Fam.put_at (Fam.pull [_, a, b, c] _ (f6.below hal)) 46 ⟨w6.heap.size, 0, none⟩ 1 1 [y] rfl (at_one (by rw [Lib.cell_of_heap (heap_alloc_new w6 (.cells #[y] 9))]; rfl)) (one_of hy) Try.underlying46 info9 (by rfl) (by omega) (by omega)
  exact ⟨A5, c5, w6, A6, c6, w7, r6, r7, f7, t6, hal, t7⟩
/-- Two blocks more: what they hold. -/
theorem two_news (w : World) (x y : Value) (e f : TypeId) : Below w.heap.size w ((w.alloc (.cells #[x] e)).alloc (.cells #[y] f)).drew ∧ ((w.alloc (.cells #[x] e)).alloc (.cells #[y] f)).drew.cell? ⟨w.heap.size, 0, none⟩ = some x ∧ ((w.alloc (.cells #[x] e)).alloc (.cells #[y] f)).drew.cell? ⟨w.heap.size + 1, 0, none⟩ = some y ∧ ((w.alloc (.cells #[x] e)).alloc (.cells #[y] f)).drew.heap.size = w.heap.size + 2 := by
  have hs1 : (w.alloc (.cells #[x] e)).heap.size = w.heap.size + 1 := by simp
  refine ⟨Below.drew (((Below.refl w.heap.size w).alloc (Nat.le_refl _) _).alloc (by simp) _), ?_, ?_, ?_⟩
  · show ((w.alloc (.cells #[x] e)).alloc (.cells #[y] f)).cell? _ = _
    rw [Lib.cell_of_heap ((heap_alloc_old _ _ (by rw [hs1]; exact Nat.lt_succ_self _)).trans (heap_alloc_new w (.cells #[x] e)))]
    rfl
  · show ((w.alloc (.cells #[x] e)).alloc (.cells #[y] f)).cell? _ = _
    have h := heap_alloc_new (w.alloc (.cells #[x] e)) (.cells #[y] f)
    rw [hs1] at h
    rw [Lib.cell_of_heap h]
    rfl
  · show ((w.alloc (.cells #[x] e)).alloc (.cells #[y] f)).heap.size = _
    simp
theorem step_at {P : Program} {ops : Array Oper} {o : Oper} {a : Act} {K : Act → World → Prop} {Q : Exit → Act → World → Prop} {E : Prop} (w : World) (h : if Region.wanted o (yielded ops a.tmps) = true then Oper.wp P o a w K Q else E) : if Region.wanted o (yielded ops a.tmps) = true then Oper.wp P o a w K Q else E := h
open Classical in
theorem perm_spoil (a b c d : Item) (x y : List Item) : (a :: b :: c :: d :: (x ++ y)).Perm (b :: (x ++ (a :: c :: d :: y))) := by
  refine perm_of fun i => ?_
  simp only [List.count_cons, List.count_append, List.count_nil]
  omega
/-- The lists are forgotten. -/
theorem items_spoilt {w : World} {ex : Nat → Prop} {pb rb : Nat} {All : List Md} {v7 : Value} {c : Item} {WT : List (Value × List Int)} (h : Fam w ex (pairItem pb rb All :: c :: rowItem 49 1 v7 WT.length (WT.map (·.1)) :: rowsI WT)) : Fam w ex (items pb rb All (.slice none 0 0) (.slice none 0 0) v7 [] WT) := by
  have hn : ∀ e : TypeId, ∀ l, Fam w ex l → Fam w ex (rowItem e 1 (.slice none 0 0) 0 [] :: l) := fun e l h => h.add (Below.refl _ _) (rowItem e 1 (.slice none 0 0) 0 []) ⟨World.ownsRow_nil _ _ _ _, fun k hk => by cases hk⟩
  exact Fam.pull [rowItem 26 1 (.slice none 0 0) 0 [], rowItem 9 1 (.slice none 0 0) 0 []] _ (hn 26 _ (hn 9 _ h.swap.tail))
open Classical in
theorem perm_take (a b c d e : Item) (x y : List Item) : (a :: b :: c :: d :: e :: (x ++ y)).Perm (d :: b :: a :: e :: ((x ++ [c]) ++ y)) := by
  refine perm_of fun i => ?_
  simp only [List.count_cons, List.count_append, List.count_nil]
  omega
open Classical in
theorem perm_last (a b : Item) (x y : List Item) : (a :: b :: (x ++ y)).Perm (a :: (x ++ (b :: (y ++ [])))) := by
  refine perm_of fun i => ?_
  simp only [List.count_cons, List.count_append, List.count_nil]
  omega
/-- The pools apart, the lists of bytes, the lists of numbers. -/
def items2 (pb rb : Nat) (All : List Md) (v5 v7 : Value) (OUT : List (Value × List UInt8)) (WT : List (Value × List Int)) : List Item :=
  poolItem pb All :: refItem rb All :: rowItem 26 1 v5 OUT.length (OUT.map (·.1)) :: rowItem 49 1 v7 WT.length (WT.map (·.1)) :: (rowsB OUT ++ rowsI WT)
theorem items_two {w : World} {ex : Nat → Prop} {pb rb : Nat} {All : List Md} {v5 v6 v7 : Value} {OUT : List (Value × List UInt8)} {WT : List (Value × List Int)} (h : Fam w ex (items pb rb All v5 v6 v7 OUT WT)) : Fam w ex (items2 pb rb All v5 v7 OUT WT) := by
  unfold items at h
  have h1 := Fam.pull [poolItem pb All, refItem rb All, rowItem 26 1 v5 OUT.length (OUT.map (·.1))] _ h.split
  exact h1.tail
end Go.Proofs.Ytdgcmihnbkamgaa
