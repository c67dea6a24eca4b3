/- PoolBytes: an append of one to a row of one-cell things; the old row still reads. Condition: the sum of bytes with its growth at most 2^48. -/
import Derived.Test.YtdgcmihnbkamgaaPoolS
namespace Go.Proofs.Ytdgcmihnbkamgaa
open Go.RowKit
set_option linter.unusedVariables false
set_option linter.unusedSimpArgs false
/-- How far a row of n grows where one is put behind it. -/
theorem grow_one {n : Nat} (h : 256 ≤ n) : Builtin.nextslicecap (n + 1) n ≤ n + (n + 768) / 4 := by
  unfold Builtin.nextslicecap
  rw [if_neg (by omega), if_neg (by omega), growBy_four, if_neg (by omega), if_pos (by omega)]
  exact Nat.le_refl _
/-- The room that one more wants. -/
def Fits (n bytes : Nat) : Prop := (n + 1) * bytes ≤ 140737488355328 ∨ (256 ≤ n ∧ (n + (n + 768) / 4) * bytes ≤ 281474976710656)
theorem Fits.cap {n bytes : Nat} (h : Fits n bytes) : Builtin.nextslicecap (n + 1) n * bytes ≤ 281474976710656 := by
  rcases h with h | ⟨h1, h2⟩
  · exact growslice_fits (by omega) h
  · exact Nat.le_trans (Nat.mul_le_mul_right _ (grow_one h1)) h2
/-- 'append(l, x)': as row_push, with the sharper bound; and the old row reads as it did. -/
theorem row_more (w : World) (t ty e : TypeId) {bytes : Nat} {z : Value} {ok : Nat → Prop} {v : Value} {n : Nat} {cs : List Value} (h : RowO w ok e 1 v n cs) (x : Value) (ht : Try.prog.underlying t = some (.slice e)) (hinfo : (Try.prog.info? e).map (fun i => (i.zero, i.size, i.bytes)) = some (some z, 1, bytes)) (hz : z.cells.size = 1)
    (h1 : x.oneCell' = true) (hl : Fits n bytes) (hn : n < 9223372036854775807) :
    ∃ v' w', (Builtin.append_ #[t, t] ty #[v, .slice (some ⟨w.heap.size, 0, none⟩) 1 1]).run Try.prog (w.alloc (.cells #[x] e)) = .ok v' w' ∧ RowO w' (grow ok w) e 1 v' (n + 1) (cs ++ [x]) ∧ Turn ok w w' ∧ ∀ (j : Nat) u, cs[j]? = some u → ∃ g c, v = .slice (some ⟨g, 0, none⟩) n c ∧ w'.cell? ⟨g, j, none⟩ = some u := by
  obtain ⟨i0, hi, hz0, hz1, hz2⟩ := info_parts hinfo
  have hb := (Below.refl w.heap.size w).alloc (Nat.le_refl _) (.cells #[x] e)
  have hal := h.loc (w' := w.alloc (.cells #[x] e)) fun b _ hlt => hb.block b hlt
  have hsz : (w.alloc (.cells #[x] e)).heap.size = w.heap.size + 1 := by simp
  have hnew := World.news_of_block (heap_alloc_new w (.cells #[x] e))
  have hcl : cs.length = n := by simpa using h.1.1
  rcases hal.1.2 with ⟨rfl, rfl⟩ | ⟨g, cap, cur, rfl, hbg, hg, hnc, hcm, hcs, htake⟩
  · obtain ⟨v', w', hr, ho, ht'⟩ := row_push w t ty e h #[x] ht hinfo hz (by decide) (by rfl) (by intro u hu; simp at hu; subst hu; exact h1) (by rcases hl with hl | hl; exact hl; omega) hn
    refine ⟨v', w', hr, ho, ht', fun j u hj => ?_⟩
    rw [List.getElem?_eq_none (by omega)] at hj
    cases hj
  · have hcell : ∀ j u, cs[j]? = some u → (w.alloc (.cells #[x] e)).cell? ((⟨g, 0, none⟩ : Addr).add j) = some u := hal.1.cells (g := g) rfl
    by_cases hroom : n + 1 ≤ cap
    · have hr := run_append_room (P := Try.prog) (w.alloc (.cells #[x] e)) t ty e i0 ht hi g n cap cur hg ⟨w.heap.size, 0, none⟩ 1 1 [x] (by rw [hz1]; rfl) hnew (by intro u hu; simp at hu; subst hu; exact h1) hroom (by rw [hz1, hcs]; simp; omega)
      rw [hz1] at hr
      have hh := setRow_heap (w.alloc (.cells #[x] e)) g cur (cur.toList.take (n * 1) ++ [x] ++ cur.toList.drop (n * 1 + [x].length)).toArray e _ hg
      have hO : RowO ((w.alloc (.cells #[x] e)).setRow g (cur.toList.take (n * 1) ++ [x] ++ cur.toList.drop (n * 1 + [x].length)).toArray) (grow ok w) e 1 (.slice (some ⟨g, 0, none⟩) (n + 1) cap) (n + 1) (cs ++ [x]) := by
        refine ⟨⟨by simp [hcl], .inr ⟨g, cap, _, rfl, Nat.zero_le _, hh, hroom, hcm, ?_, ?_⟩⟩, fun k hk => .inl (h.2 k hk)⟩
        · simp only [List.size_toArray, List.length_append, List.length_take, List.length_drop, Array.length_toList, List.length_cons, List.length_nil]
          omega
        · rw [htake, show (n + 1) * 1 = (cs ++ [x]).length by simp [hcl]]
          exact List.take_left
      refine ⟨_, _, hr, hO, (Turn.of_below hb).trans ⟨rfl, rfl, rfl, by simp [World.setRow], fun k _ hk => setRow_other _ g k _ fun e => hk (.inl (h.2 k (by rw [e]; rfl)))⟩, fun j u hj => ⟨g, cap, rfl, ?_⟩⟩
      have := hO.1.cells (g := g) rfl j u (by rw [List.getElem?_append_left (List.getElem?_eq_some_iff.1 hj).1]; exact hj)
      rw [add_zero_off] at this
      exact this
    · have hcap : cap = n := by omega
      subst hcap
      have hr := run_append_grow (P := Try.prog) (w.alloc (.cells #[x] e)) t ty e i0 z ht hi hz0 ⟨g, 0, none⟩ cap cap cs (by rw [hz1]; omega) hcell ⟨w.heap.size, 0, none⟩ 1 1 [x] (by rw [hz1]; rfl) hnew (by omega) (by omega) (by rw [hz2]; exact hl.cap)
      have hd := (Below.drew (Below.refl (w.alloc (.cells #[x] e)).heap.size (w.alloc (.cells #[x] e)))).alloc (Nat.le_refl _) (.cells (cs.toArray ++ [x].toArray ++ Builtin.zeroCells z.cells (grownCap (w.alloc (.cells #[x] e)) (cap + 1) cap e - (cap + 1))) e)
      have hge := grownCap_ge (w.alloc (.cells #[x] e)) (cap + 1) cap e
      have hgm : grownCap (w.alloc (.cells #[x] e)) (cap + 1) cap e ≤ maxLen := grownCap_le_maxLen (w.alloc (.cells #[x] e)) (cap + 1) cap e (by unfold maxLen; omega)
      refine ⟨_, _, hr, ⟨⟨by simp [hcl], .inr ⟨_, _, _, rfl, Nat.zero_le _, heap_alloc_new (w.alloc (.cells #[x] e)).drew _, hge, hgm, ?_, ?_⟩⟩, fun k hk => .inr ?_⟩, (Turn.of_below hb).trans (Turn.of_below hd), fun j u hj => ⟨g, cap, rfl, ?_⟩⟩
      · simp only [Array.size_append, List.size_toArray, size_zeroCells, hz, hcl, List.length_cons, List.length_nil]
        omega
      · simp only [Array.toList_append]
        rw [show (cap + 1) * 1 = (cs ++ [x]).length by simp [hcl]]
        exact List.take_left
      · obtain rfl := Option.some.inj hk
        show w.heap.size ≤ (w.alloc (.cells #[x] e)).heap.size
        omega
      · have := (hd.cell (World.block_lt_of_cell? _ _ (hcell j u hj))).trans (hcell j u hj)
        rw [add_zero_off] at this
        exact this
end Go.Proofs.Ytdgcmihnbkamgaa
