/- ShopTells: facts for the walk of the statement. Condition: at most 2^20 lines, each name no longer than 2^20; the table of powers of ten is laid. -/
import Derived.Test.YtdgcmihnbkamgaaDoorTellE
import Derived.Deep.AppendLies
import Derived.Laws.StructEq
namespace Go.Proofs.YtdgcmihnbkamgaaDoor
open Go.RowKit
set_option linter.unusedVariables false
attribute [local go_sem ↓] Go.wp_at_zero Go.wp_at_succ
def lnCells (ls : List Ln) : List Value := ls.flatMap fun x => [.string x.s, .int .i64 x.q, .int .i64 x.p]
theorem lnCells_length (ls : List Ln) : (lnCells ls).length = ls.length * 3 := by
  induction ls with
  | nil => rfl
  | cons x ls ih =>
    have e : lnCells (x :: ls) = [.string x.s, .int .i64 x.q, .int .i64 x.p] ++ lnCells ls := rfl
    rw [e, List.length_append, ih, List.length_cons]
    simp
    omega
theorem lnCells_at (ls : List Ln) : ∀ (i : Nat) (x : Ln), ls[i]? = some x → (lnCells ls)[i * 3]? = some (.string x.s) ∧ (lnCells ls)[i * 3 + 1]? = some (.int .i64 x.q) ∧ (lnCells ls)[i * 3 + 2]? = some (.int .i64 x.p) := by
  induction ls with
  | nil => intro i x h; simp at h
  | cons y ls ih =>
    intro i x h
    have e : lnCells (y :: ls) = .string y.s :: .int .i64 y.q :: .int .i64 y.p :: lnCells ls := rfl
    cases i with
    | zero =>
      obtain rfl : y = x := by simpa using h
      rw [e]
      exact ⟨rfl, rfl, rfl⟩
    | succ i =>
      have h' : ls[i]? = some x := by simpa using h
      obtain ⟨h0, h1, h2⟩ := ih i x h'
      rw [e, show (i + 1) * 3 = i * 3 + 3 by omega]
      exact ⟨by simpa using h0, by simpa using h1, by simpa using h2⟩
theorem lnCells_one (ls : List Ln) : ∀ u ∈ lnCells ls, u.oneCell' = true := by
  intro u hu
  obtain ⟨x, _, hx⟩ := List.mem_flatMap.1 hu
  simp at hx
  rcases hx with rfl | rfl | rfl <;> rfl
theorem lnCells_back (ls : List Ln) (j : Nat) (u : Value) (h : (lnCells ls)[j]? = some u) : ∃ (i : Nat) (x : Ln), ls[i]? = some x ∧ ((j = i * 3 ∧ u = .string x.s) ∨ (j = i * 3 + 1 ∧ u = .int .i64 x.q) ∨ (j = i * 3 + 2 ∧ u = .int .i64 x.p)) := by
  have hj : j < ls.length * 3 := by rw [← lnCells_length]; exact (List.getElem?_eq_some_iff.1 h).1
  have hi : j / 3 < ls.length := by omega
  obtain ⟨x, hx⟩ : ∃ x, ls[j / 3]? = some x := ⟨_, List.getElem?_eq_getElem hi⟩
  obtain ⟨h0, h1, h2⟩ := lnCells_at ls _ x hx
  refine ⟨j / 3, x, hx, ?_⟩
  have hc : j = j / 3 * 3 ∨ j = j / 3 * 3 + 1 ∨ j = j / 3 * 3 + 2 := by omega
  rcases hc with e | e | e
  · rw [← e, h] at h0; exact .inl ⟨e, Option.some.inj h0⟩
  · rw [← e, h] at h1; exact .inr (.inl ⟨e, Option.some.inj h1⟩)
  · rw [← e, h] at h2; exact .inr (.inr ⟨e, Option.some.inj h2⟩)
theorem add_off (a : Addr) (i k : Nat) (hk : 0 < k) : a.add (i + k) = ⟨(a.add i).block, (a.add i).off + k, none⟩ := by
  unfold Addr.add
  rw [if_neg (by omega)]
  split
  · rename_i h; subst h; simp
  · simp; omega
/-- The lines' cells, one behind the other. -/
theorem LnsAt.news {w : World} {a : Addr} {ls : List Ln} (h : LnsAt w (some a) ls) : ∀ j u, (lnCells ls)[j]? = some u → w.cell? (a.add j) = some u := by
  intro j u hu
  obtain ⟨i, x, hx, hc⟩ := lnCells_back ls j u hu
  obtain ⟨b, hb, h0, h1, h2⟩ := h i x hx
  obtain rfl : a = b := Option.some.inj hb
  rcases hc with ⟨rfl, rfl⟩ | ⟨rfl, rfl⟩ | ⟨rfl, rfl⟩
  · exact h0
  · rw [add_off _ _ _ (by decide)]; exact h1
  · rw [add_off _ _ _ (by decide)]; exact h2
theorem LnsAt.mk {w : World} {a : Addr} {ls : List Ln} (h : ∀ j u, (lnCells ls)[j]? = some u → w.cell? (a.add j) = some u) : LnsAt w (some a) ls := by
  intro i x hx
  obtain ⟨h0, h1, h2⟩ := lnCells_at ls i x hx
  refine ⟨a, rfl, h _ _ h0, ?_, ?_⟩
  · have := h _ _ h1; rw [add_off _ _ _ (by decide)] at this; exact this
  · have := h _ _ h2; rw [add_off _ _ _ (by decide)] at this; exact this
theorem LnsAt.drew {w : World} {A : Option Addr} {ls : List Ln} (h : LnsAt w A ls) : LnsAt w.drew A ls := h
theorem LnsAt.alloc {w : World} {A : Option Addr} {ls : List Ln} (h : LnsAt w A ls) (o : Obj) : LnsAt (w.alloc o) A ls := h.below ((Below.refl _ _).alloc (Nat.le_refl _) _)
theorem HA.b1 {g : Nat} {st t m : Int} {A : Option Addr} {n c : Nat} {w w' : World} (h : HA g st t m A n c w) (hb : Below (g + 1) w w') : HA g st t m A n c w' := (hb.block g (Nat.lt_succ_self g)).trans h
theorem HA.alloc {g : Nat} {st t m : Int} {A : Option Addr} {n c : Nat} {w : World} (h : HA g st t m A n c w) (o : Obj) : HA g st t m A n c (w.alloc o) := h.below ((Below.refl _ _).alloc (Nat.le_refl _) _)
theorem after_app {g : Nat} {w1 W w2 : World} {v : Value} (hB : Below (g + 1) w1 W) (hs : g + 1 ≤ w1.heap.size) (hown : W.ownsRow (g + 1) 31 3 v 0 []) (hgrow : W.grownBy w2 v.ownBlock) : Below (g + 1) w1 w2 :=
  hB.grown hgrow (Nat.le_trans hs hB.size) (fun k hk => (hown.lt k hk).1)
theorem own_c {g : Nat} (w1 : World) (o : Obj) (hs : g + 1 ≤ w1.heap.size) : ((w1.alloc o).alloc (.cells #[] 31)).drew.ownsRow (g + 1) 31 3 (.slice (some ⟨w1.heap.size + 1, 0, none⟩) 0 0) 0 [] := by
  have h := World.ownsRow_made (base := g + 1) (e := 31) (size := 3) (w1.alloc o) #[] 0 (Nat.le_trans hs (by simp)) (by decide) rfl
  have e : (w1.alloc o).heap.size = w1.heap.size + 1 := by simp
  rw [e] at h
  exact h
theorem box_kept {W w2 : World} {b : Nat} {cs : Array Value} (h : W.heap[b]? = some (.cells cs 28 (0, 0))) {v : Value} {base : Nat} (hown : W.ownsRow base 31 3 v 0 []) (hgrow : W.grownBy w2 v.ownBlock) : w2.heap[b]? = some (.cells cs 28 (0, 0)) := by
  refine (hgrow.block b (heap_lt h) (fun e => ?_)).trans h
  rcases hown.2 with ⟨hv, _⟩ | ⟨g, cap, cur, hv, _, hc, _⟩
  · rw [hv] at e; cases e
  · rw [hv] at e
    have e2 : b = g := by simpa [Value.ownBlock] using e
    rw [e2, hc] at h
    simp at h
theorem box_cells {w : World} {b : Nat} (h : w.heap[b]? = some (.cells #[.int .i64 0, .slice none 0 0, .int .i64 0, .int .i64 0] 28 (0, 0))) : (w.cell? ⟨b, 0, none⟩ = some (.int .i64 0) ∧ w.cell? ⟨b, 1, none⟩ = some (.slice none 0 0) ∧ w.cell? ⟨b, 2, none⟩ = some (.int .i64 0) ∧ w.cell? ⟨b, 3, none⟩ = some (.int .i64 0)) ∧ w.frozen? ⟨b, 0, none⟩ = false ∧ w.frozen? ⟨b, 1, none⟩ = false ∧ w.frozen? ⟨b, 2, none⟩ = false ∧ w.frozen? ⟨b, 3, none⟩ = false :=
  ⟨⟨by rw [Lib.cell_of_heap h]; rfl, by rw [Lib.cell_of_heap h]; rfl, by rw [Lib.cell_of_heap h]; rfl, by rw [Lib.cell_of_heap h]; rfl⟩, Lib.frozen_of_heap h _, Lib.frozen_of_heap h _, Lib.frozen_of_heap h _, Lib.frozen_of_heap h _⟩
theorem box_B (w1 : World) (o : Obj) : ((w1.alloc o).alloc (.cells #[.int .i64 0, .slice none 0 0, .int .i64 0, .int .i64 0] 28)).drew.heap[w1.heap.size + 1]? = some (.cells #[.int .i64 0, .slice none 0 0, .int .i64 0, .int .i64 0] 28 (0, 0)) := by
  have h := heap_alloc_new (w1.alloc o) (.cells #[.int .i64 0, .slice none 0 0, .int .i64 0, .int .i64 0] 28)
  have e : (w1.alloc o).heap.size = w1.heap.size + 1 := by simp
  rw [e] at h
  exact h
theorem box_C (w1 : World) (o : Obj) : ((w1.alloc (.cells #[.int .i64 0, .slice none 0 0, .int .i64 0, .int .i64 0] 28)).alloc o).drew.heap[w1.heap.size]? = some (.cells #[.int .i64 0, .slice none 0 0, .int .i64 0, .int .i64 0] 28 (0, 0)) :=
  (Lib.alloc_old (w1.alloc (.cells #[.int .i64 0, .slice none 0 0, .int .i64 0, .int .i64 0] 28)) o w1.heap.size (by simp)).trans (heap_alloc_new w1 _)
theorem at_world {W : World} {P : Program} {o : Oper} {a : Act} {K : Act → World → Prop} {Q : Exit → Act → World → Prop} {E c : Prop} {dc : Decidable c} (h : @ite Prop c dc (Oper.wp P o a W K Q) E) : @ite Prop c dc (Oper.wp P o a W K Q) E := h
theorem own_dr {w : World} {base e size n : Nat} {v : Value} {xs : List Value} (h : w.ownsRow base e size v n xs) : w.drew.ownsRow base e size v n xs := h
theorem bel_dr {B : Nat} {w w' : World} (h : Below B w w') : Below B w w'.drew := Below.drew h
theorem HA.bx4 {g : Nat} {st t m : Int} {A : Option Addr} {n c : Nat} {w : World} (h : HA g st t m A n c w) (b : Nat) (hne : b ≠ g) (v0 v1 v2 v3 : Value) :
    ((((w.setCell ⟨b, 0, none⟩ v0).setCell ⟨b, 1, none⟩ v1).setCell ⟨b, 2, none⟩ v2).setCell ⟨b, 3, none⟩ v3).cell? ⟨g, 0, none⟩ = some (.int .i64 st) ∧ ((((w.setCell ⟨b, 0, none⟩ v0).setCell ⟨b, 1, none⟩ v1).setCell ⟨b, 2, none⟩ v2).setCell ⟨b, 3, none⟩ v3).cell? ⟨g, 1, none⟩ = some (.slice A n c) ∧ ((((w.setCell ⟨b, 0, none⟩ v0).setCell ⟨b, 1, none⟩ v1).setCell ⟨b, 2, none⟩ v2).setCell ⟨b, 3, none⟩ v3).cell? ⟨g, 2, none⟩ = some (.int .i64 t) ∧ ((((w.setCell ⟨b, 0, none⟩ v0).setCell ⟨b, 1, none⟩ v1).setCell ⟨b, 2, none⟩ v2).setCell ⟨b, 3, none⟩ v3).cell? ⟨g, 3, none⟩ = some (.int .i64 m) := by
  have hb := h.bx
  refine ⟨?_, ?_, ?_, ?_⟩ <;> rw [World.cell?_setCell_far _ _ _ _ hne, World.cell?_setCell_far _ _ _ _ hne, World.cell?_setCell_far _ _ _ _ hne, World.cell?_setCell_far _ _ _ _ hne]
  · exact hb.1
  · exact hb.2.1
  · exact hb.2.2.1
  · exact hb.2.2.2
section
variable {P : Program} {d : Nat} {xs ys : Array Value} {f : Field} {fs : List Field} {a b : Value} {r s : Bool} {w : World}
/-- One field of an equality of structs. -/
theorem eqf_one (hn : (f.name == "_") = false) (ha : (part f.type xs f.offset).run P w = .ok a w) (hb : (part f.type ys f.offset).run P w = .ok b w) (he : (Op.equalIn d f.type a b).run P w = .ok true w) (hr : (Op.eqFields d xs ys fs).run P w = .ok s w) : (Op.eqFields d xs ys (f :: fs)).run P w = .ok s w := by
  have hn' : f.name ≠ "_" := by simpa using hn
  rw [Op.eqFields]
  simp only [if_pos hn', Sem.run_bind, ha, hb, he, Result.andThen_ok]
  simpa using hr
theorem eqf_none : (Op.eqFields d xs ys []).run P w = .ok true w := by simp [Op.eqFields]
end
theorem eqLn (d : Nat) (w : World) (x : Ln) : (Op.equalIn (d + 2) 31 (.agg #[.string x.s, .int .i64 x.q, .int .i64 x.p]) (.agg #[.string x.s, .int .i64 x.q, .int .i64 x.p])).run Tryd.prog w = .ok true w := by
  rw [run_equalIn_struct (P := Tryd.prog) w (d + 1) 31 _ _ (by rw [Program.fieldsOf, Tryd.underlying31]) (by kernel_rfl), Program.fieldsOf, Tryd.underlying31]
  refine eqf_one (by rfl) (by go_simp; rfl) (by go_simp; rfl) (by go_simp) ?_
  refine eqf_one (by rfl) (by go_simp; rfl) (by go_simp; rfl) (by go_simp) ?_
  refine eqf_one (by rfl) (by go_simp; rfl) (by go_simp; rfl) (by go_simp) ?_
  exact eqf_none
/-- What stands behind the first region: the answer in g, the copy in b. -/
structure Rd (g b : Nat) (st t m : Int) (A B : Option Addr) (ls : List Ln) (c cap : Nat) (w W : World) : Prop where
  ha : HA g st t m A ls.length c W
  hb : HA b st t m B ls.length cap W
  la : LnsAt W A ls
  lb : LnsAt W B ls
  bl : Below g w W
theorem ends4 {w : World} {b : Nat} (h : w.heap[b]? = some (.cells #[.int .i64 0, .slice none 0 0, .int .i64 0, .int .i64 0] 28 (0, 0))) (v0 v1 v2 v3 : Value) :
    ((((w.setCell ⟨b, 0, none⟩ v0).setCell ⟨b, 1, none⟩ v1).setCell ⟨b, 2, none⟩ v2).setCell ⟨b, 3, none⟩ v3).heap[b]? = some (.cells #[v0, v1, v2, v3] 28 (0, 0)) := by
  simp [World.setCell, Array.getElem?_modify, h]
theorem own_lns {w : World} {base g2 cap : Nat} {ls : List Ln} (h : w.ownsRow base 31 3 (.slice (some ⟨g2, 0, none⟩) (0 + ls.length) cap) (0 + ls.length) ([] ++ lnCells ls)) : LnsAt w (some ⟨g2, 0, none⟩) ls :=
  LnsAt.mk fun j u hu => h.cells (g := g2) rfl j u hu
theorem rd_new {g g2 cap : Nat} {st t m : Int} {A : Option Addr} {ls : List Ln} {c : Nat} {w w1 w2 : World} (hb0 : Below g w w1) (hH : HA g st t m A ls.length c w1) (hL : LnsAt w1 A ls) (hs : g < w1.heap.size) (hba : Below (g + 1) w1 w2)
    (hl2 : LnsAt w2 (some ⟨g2, 0, none⟩) ls) (hla : LnsAt w2 A ls) :
    Rd g w2.heap.size st t m A (some ⟨g2, 0, none⟩) ls c cap w (w2.alloc (.cells #[.int .i64 st, .slice (some ⟨g2, 0, none⟩) ls.length cap, .int .i64 t, .int .i64 m] 28)) :=
  ⟨(HA.b1 hH hba).alloc _, heap_alloc_new w2 _, hla.alloc _, hl2.alloc _, (hb0.trans (hba.mono (Nat.le_succ g))).alloc (Nat.le_trans (Nat.le_of_lt hs) hba.size) _⟩
theorem LnsAt.set {w : World} {A : Option Addr} {ls : List Ln} (h : LnsAt w A ls) (p : Addr) (v : Value) (hne : ∀ a, A = some a → p.block ≠ a.block) : LnsAt (w.setCell p v) A ls := by
  intro i x hx
  obtain ⟨a, ha, h0, h1, h2⟩ := h i x hx
  have hn := hne a ha
  have e : ∀ k, (a.add k).block = a.block := fun k => by unfold Addr.add; split <;> rfl
  refine ⟨a, ha, ?_, ?_, ?_⟩
  · rw [World.cell?_setCell_far _ _ _ _ (by rw [e]; exact hn)]; exact h0
  · rw [World.cell?_setCell_far _ _ _ _ (by show _ ≠ (a.add (i * 3)).block; rw [e]; exact hn)]; exact h1
  · rw [World.cell?_setCell_far _ _ _ _ (by show _ ≠ (a.add (i * 3)).block; rw [e]; exact hn)]; exact h2
theorem LnsAt.blk {w : World} {a : Addr} {ls : List Ln} (h : LnsAt w (some a) ls) (hpos : 0 < ls.length) : a.block < w.heap.size := by
  obtain ⟨x, hx⟩ : ∃ x, ls[0]? = some x := ⟨ls[0], List.getElem?_eq_getElem hpos⟩
  obtain ⟨b, hb, h0, _⟩ := h 0 x hx
  obtain rfl : a = b := Option.some.inj hb
  have := World.block_lt_of_cell? w _ h0
  have e : (a.add (0 * 3)).block = a.block := by unfold Addr.add; split <;> rfl
  omega
theorem rd_set {g g2 cap b : Nat} {st t m : Int} {a : Addr} {ls : List Ln} {c : Nat} {w w1 w2 : World} (hpos : 0 < ls.length) (hb0 : Below g w w1) (hH : HA g st t m (some a) ls.length c w1) (hL : LnsAt w1 (some a) ls) (hs : g < w1.heap.size) (hba : Below (g + 1) w1 w2)
    (hl2 : LnsAt w2 (some ⟨g2, 0, none⟩) ls) (hla : LnsAt w2 (some a) ls) (hx : w2.heap[b]? = some (.cells #[.int .i64 0, .slice none 0 0, .int .i64 0, .int .i64 0] 28 (0, 0))) (hb : w1.heap.size ≤ b) (hne : b ≠ g2) :
    Rd g b st t m (some a) (some ⟨g2, 0, none⟩) ls c cap w ((((w2.setCell ⟨b, 0, none⟩ (.int .i64 st)).setCell ⟨b, 1, none⟩ (.slice (some ⟨g2, 0, none⟩) ls.length cap)).setCell ⟨b, 2, none⟩ (.int .i64 t)).setCell ⟨b, 3, none⟩ (.int .i64 m)) := by
  have hab := hL.blk hpos
  have n1 : ∀ a', some a = some a' → b ≠ a'.block := fun a' e => by obtain rfl := Option.some.inj e; omega
  have n2 : ∀ a', some (⟨g2, 0, none⟩ : Addr) = some a' → b ≠ a'.block := fun a' e => by obtain rfl := Option.some.inj e; exact hne
  have hB := hb0.trans (hba.mono (Nat.le_succ g))
  have hgb : g ≤ b := by omega
  refine ⟨?_, ends4 hx _ _ _ _, (((hla.set _ _ n1).set _ _ n1).set _ _ n1).set _ _ n1, (((hl2.set _ _ n2).set _ _ n2).set _ _ n2).set _ _ n2, (((hB.setCell hgb _).setCell hgb _).setCell hgb _).setCell hgb _⟩
  have h1 : HA g st t m (some a) ls.length c w2 := HA.b1 hH hba
  unfold HA at h1 ⊢
  rw [Below.heap_setCell _ _ _ _ (by show g ≠ b; omega), Below.heap_setCell _ _ _ _ (by show g ≠ b; omega), Below.heap_setCell _ _ _ _ (by show g ≠ b; omega), Below.heap_setCell _ _ _ _ (by show g ≠ b; omega)]
  exact h1
theorem add_zero_blk (g k : Nat) : (⟨g, 0, none⟩ : Addr).add k = ⟨g, k, none⟩ := by unfold Addr.add; split <;> simp_all
theorem la2 {g : Nat} {w1 w2 : World} {A : Option Addr} {ls : List Ln} (h : LnsAt w1 A ls) (hs : w1.heap.size = g + 1) (hb : Below (g + 1) w1 w2) : LnsAt w2 A ls := h.below (by rw [hs]; exact hb)
theorem Rd.on {g b : Nat} {st t m : Int} {A B : Option Addr} {ls : List Ln} {c cap : Nat} {w W w' : World} (h : Rd g b st t m A B ls c cap w W) (hb : Below W.heap.size W w') : Rd g b st t m A B ls c cap w w' :=
  ⟨h.ha.below hb, h.hb.below hb, h.la.below hb, h.lb.below hb, h.bl.trans (hb.mono (Nat.le_of_lt (heap_lt h.ha)))⟩
theorem Rd.bx {g b : Nat} {st t m : Int} {A B : Option Addr} {ls : List Ln} {c cap : Nat} {w W : World} (h : Rd g b st t m A B ls c cap w W) : W.cell? ⟨g, 0, none⟩ = some (.int .i64 st) ∧ W.cell? ⟨g, 1, none⟩ = some (.slice A ls.length c) ∧ W.cell? ⟨g, 2, none⟩ = some (.int .i64 t) ∧ W.cell? ⟨g, 3, none⟩ = some (.int .i64 m) ∧ W.cell? ⟨b, 0, none⟩ = some (.int .i64 st) ∧ W.cell? ⟨b, 1, none⟩ = some (.slice B ls.length cap) ∧ W.cell? ⟨b, 2, none⟩ = some (.int .i64 t) ∧ W.cell? ⟨b, 3, none⟩ = some (.int .i64 m) :=
  ⟨h.ha.bx.1, h.ha.bx.2.1, h.ha.bx.2.2.1, h.ha.bx.2.2.2, h.hb.bx.1, h.hb.bx.2.1, h.hb.bx.2.2.1, h.hb.bx.2.2.2⟩
theorem Rd.drew {g b : Nat} {st t m : Int} {A B : Option Addr} {ls : List Ln} {c cap : Nat} {w W : World} (h : Rd g b st t m A B ls c cap w W) : Rd g b st t m A B ls c cap w W.drew := h.on (Below.drew (Below.refl _ _))
theorem Rd.pw {g b : Nat} {st t m : Int} {A B : Option Addr} {ls : List Ln} {c cap : Nat} {w W : World} (h : Rd g b st t m A B ls c cap w W) (hp : Pow w) (hg : w.heap.size = g) : Pow W := pow_below hp (by rw [hg]; exact h.bl)
/-- The fixed answer of the statement. -/
theorem tell3 (w : World) (hp : Pow w) : Calls Tryd.prog 7 #[.int .i64 3, .agg #[.int .i64 0, .slice none 0 0, .int .i64 0, .int .i64 0]] w fun e w' => e = .returned (.string ⟨#[51, 32, 111, 107, 10]⟩) ∧ Below w.heap.size w w' := by
  have h := Tell_calls 3 (by decide) (by decide) 0 0 (by decide) (by decide) 0 (by decide) (by decide) ⟨#[111, 107]⟩ (by decide) (fun w _ => word_hit 0 0 _ (by rfl) w) none [] 0 ⟨by decide, fun i x hx => by simp at hx⟩ w hp (fun i x hx => by simp at hx)
  have e : (⟨(tellT 3 ⟨#[111, 107]⟩ 0 0 []).toArray⟩ : ByteArray) = ⟨#[51, 32, 111, 107, 10]⟩ := by decide +kernel
  rw [e] at h
  exact h
section
variable {P : Program}
/-- Nothing appended to a slice that is not nil: the slice itself, the world as it was. -/
theorem run_append_empty (w : World) (t ty e : TypeId) (i : TypeInfo) (ht : P.underlying t = some (.slice e)) (hi : P.info? e = some i) (a : Addr) (cap : Nat) (A : Option Addr) (c : Nat) :
    (Builtin.append_ #[t, t] ty #[.slice (some a) 0 cap, .slice A 0 c]).run P w = .ok (.slice (some a) 0 cap) w := by
  cases A with
  | none => simp [Builtin.append_, run_underlying ht, sizeOf, typeInfo, hi, Builtin.lenOf, Builtin.firstCells, storeCells]
  | some b => simp [Builtin.append_, run_underlying ht, sizeOf, typeInfo, hi, Builtin.lenOf, Builtin.firstCells, loadCells, loadCellsFrom, storeCells]
theorem step_append_empty (w : World) {ops : Array Oper} {o : Oper} {a : Act} {K : Act → World → Prop} {Q : Exit → Act → World → Prop} {E : Prop} (hgd : o.guard = none) (s x : Operand) (t : TypeId)
    (ho : o.op = .call { callee := .builtin .append, args := #[s, x], argTypes := #[t, t] })
    (e : TypeId) (i : TypeInfo) (ht : P.underlying t = some (.slice e)) (hi : P.info? e = some i) (ad : Addr) (cap : Nat) (A : Option Addr) (c : Nat)
    (hs : a.eval s = .slice (some ad) 0 cap) (hx : a.eval x = .slice A 0 c) (h : K (a.put o.dst (.slice (some ad) 0 cap)) w) :
    if Region.wanted o (yielded ops a.tmps) = true then Oper.wp P o a w K Q else E := by
  rw [if_pos (by unfold Region.wanted; rw [hgd])]
  unfold Oper.wp execOp
  simp only [ho, resolve, invoke, builtin, Sem.run_bind, Sem.run_pure, Result.andThen_ok, List.map_toArray, List.map_cons, List.map_nil, hs, hx, run_append_empty w t o.type e i ht hi ad cap A c]
  exact h
end
theorem Tell_empty (n : Int) (n0 : -9223372036854775808 ≤ n) (n1 : n ≤ 9223372036854775807) (st : Int) (t : Int) (t0 : -9223372036854775808 ≤ t) (t1 : t ≤ 9223372036854775807) (m : Int) (m0 : -9223372036854775808 ≤ m) (m1 : m ≤ 9223372036854775807) (wd : ByteArray) (hwd : wd.size ≤ 40) (h5 : ∀ w, Pow w → Calls Tryd.prog 5 #[.int .i64 st] w fun r w' => r = .returned (.string wd) ∧ Below w.heap.size w w')
    (A : Option Addr) (c : Nat) (w : World) (hp : Pow w) :
    Calls Tryd.prog 7 #[.int .i64 n, .agg #[.int .i64 st, .slice A 0 c, .int .i64 t, .int .i64 m]] w fun e w' => e = .returned (.string ⟨(tellT n wd t m []).toArray⟩) ∧ Below w.heap.size w w' :=
  Tell_calls n n0 n1 st t t0 t1 m m0 m1 wd hwd h5 A [] c ⟨by decide, fun i x hx => by simp at hx⟩ w hp (fun i x hx => by simp at hx)
theorem refTell_empty (n : Int) (n0 : -9223372036854775808 ≤ n) (n1 : n ≤ 9223372036854775807) (st : Int) (t : Int) (t0 : -9223372036854775808 ≤ t) (t1 : t ≤ 9223372036854775807) (m : Int) (m0 : -9223372036854775808 ≤ m) (m1 : m ≤ 9223372036854775807) (wd : ByteArray) (hwd : wd.size ≤ 40) (h6 : ∀ w, Calls Tryd.prog 6 #[.int .i64 st] w fun r w' => r = .returned (.string wd) ∧ Below w.heap.size w w')
    (A : Option Addr) (c : Nat) (w : World) :
    Calls Tryd.prog 8 #[.int .i64 n, .agg #[.int .i64 st, .slice A 0 c, .int .i64 t, .int .i64 m]] w fun e w' => e = .returned (.string ⟨(tellT n wd t m []).toArray⟩) ∧ Below w.heap.size w w' :=
  refTell_calls n n0 n1 st t t0 t1 m m0 m1 wd hwd h6 A [] c ⟨by decide, fun i x hx => by simp at hx⟩ w (fun i x hx => by simp at hx)
theorem Rd.bx0 {g b : Nat} {st t m : Int} {A B : Option Addr} {c cap : Nat} {w W : World} (h : Rd g b st t m A B [] c cap w W) : W.cell? ⟨g, 0, none⟩ = some (.int .i64 st) ∧ W.cell? ⟨g, 1, none⟩ = some (.slice A 0 c) ∧ W.cell? ⟨g, 2, none⟩ = some (.int .i64 t) ∧ W.cell? ⟨g, 3, none⟩ = some (.int .i64 m) ∧ W.cell? ⟨b, 0, none⟩ = some (.int .i64 st) ∧ W.cell? ⟨b, 1, none⟩ = some (.slice B 0 cap) ∧ W.cell? ⟨b, 2, none⟩ = some (.int .i64 t) ∧ W.cell? ⟨b, 3, none⟩ = some (.int .i64 m) := h.bx
theorem new_A {st t m : Int} {B : Option Addr} (w1 : World) (o : Obj) : HA (w1.heap.size + 1) st t m B 0 0 ((w1.alloc o).alloc (.cells #[.int .i64 st, .slice B 0 0, .int .i64 t, .int .i64 m] 28)).drew := by
  have h := heap_alloc_new (w1.alloc o) (.cells #[.int .i64 st, .slice B 0 0, .int .i64 t, .int .i64 m] 28)
  have e : (w1.alloc o).heap.size = w1.heap.size + 1 := by simp
  rw [e] at h
  exact h
theorem new_C {st t m : Int} {B : Option Addr} (w1 : World) (o : Obj) : HA w1.heap.size st t m B 0 0 ((w1.alloc (.cells #[.int .i64 st, .slice B 0 0, .int .i64 t, .int .i64 m] 28)).alloc o).drew :=
  HA.alloc (heap_alloc_new w1 _) o
theorem rd0 {g b : Nat} {st t m : Int} {A B : Option Addr} {c cap : Nat} {w W : World} (ha : HA g st t m A 0 c W) (hb : HA b st t m B 0 cap W) (bl : Below g w W) : Rd g b st t m A B [] c cap w W :=
  ⟨ha, hb, fun i x hx => by simp at hx, fun i x hx => by simp at hx, bl⟩
end Go.Proofs.YtdgcmihnbkamgaaDoor
