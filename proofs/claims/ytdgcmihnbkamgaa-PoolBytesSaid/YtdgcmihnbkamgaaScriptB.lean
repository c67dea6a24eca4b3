/- A script of pool steps, read out of an argument, with the sharper bounds. No condition. -/
import Derived.Test.YtdgcmihnbkamgaaScript
namespace Go.Proofs.Ytdgcmihnbkamgaa
open Go.ChangeShapes Go.WideShapes Go.ChangeAt Go.RowKit Go.Deep
set_option linter.unusedVariables false
/-- The script. -/
theorem read_script_b {H : Type} {enc : TypeId × Value → H} {W : World} {base : Nat} {sp : Nat → Bool} {held : Bool} {n : Nat} {v : Value} {d : DataW H} {p : List MemPlace} (h : DataW.trod enc Try.prog W base sp held n 22 [v] = some (d, p)) (hsz : (DataW.weightsEach Try.prog [22] [d]).all (· ≤ reachBytes) = true) :
    ∃ A c ops, v = .slice A ops.length c ∧ ops.length ≤ 2199023255488 ∧ ScAt W A ops ∧ ∀ o, o ∈ ops → o.b.length ≤ 140737488351232 := by
  have hR : reachBytes = 140737488351232 := by decide
  rcases open_slice_fields Try.underlying22 Try.underlying28 (by kernel_rfl) (by kernel_rfl) h with ⟨hcs, _⟩ | ⟨a, len, cap, m, D, Pl, hcs, hb, hlc, hcm, hm, hx, hi⟩
  · obtain rfl : v = .slice none 0 0 := by simpa using hcs
    exact ⟨none, 0, [], rfl, (by decide), (fun i o ho => by simp at ho), fun o ho => by cases ho⟩
  · obtain rfl : v = .slice (some a) len cap := by simpa using hcs
    have hlm : len ≤ m := by rw [hm]; split <;> omega
    simp only [Prod.mk.injEq] at hx
    have hd := hx.1
    subst hd
    have h28 : Try.prog.bytesOf 28 = 64 := by kernel_rfl
    have hlen : len ≤ 2199023255488 := by
      have := sized_slice hsz (j := 0) (t := 22) rfl rfl Try.underlying22
      rw [h28] at this
      simp only [List.length_map, List.length_range] at this
      omega
    have hall := fun i (hil : i < len) n (hn : n ∈ DataW.weights Try.prog 28 (D i)) => of_decide_eq_true (List.all_eq_true.1 hsz n (by
      refine weightsEach_mem (j := 0) (t := 22) rfl rfl n ?_
      simp only [DataW.weights, Try.underlying22, List.mem_cons, List.mem_append]
      exact Or.inr (Or.inl (weightsAll_mem (List.mem_map.2 ⟨i, List.mem_range.2 hil, rfl⟩) n hn))))
    obtain ⟨ops, hl, hr⟩ := pick (α := OpR) len (fun i o => (OpOk W o ∧ o.b.length ≤ 140737488351232) ∧ W.cell? (a.add (i * 6)) = some (.int .i64 o.k) ∧ W.cell? (a.add (i * 6 + 1)) = some (.bool o.s) ∧ W.cell? (a.add (i * 6 + 2)) = some (.int .i64 o.n) ∧ W.cell? (a.add (i * 6 + 3)) = some (.int .i64 o.x) ∧ W.cell? (a.add (i * 6 + 4)) = some (.int .i64 o.y) ∧ W.cell? (a.add (i * 6 + 5)) = some o.v) (by
      intro i hil
      obtain ⟨ys, n', hD, _, hyl, hf⟩ := hi i (by omega)
      obtain ⟨v0, y0, c0, e0, t0⟩ := hf 0 _ rfl
      obtain ⟨v1, y1, c1, e1, t1⟩ := hf 1 _ rfl
      obtain ⟨v2, y2, c2, e2, t2⟩ := hf 2 _ rfl
      obtain ⟨v3, y3, c3, e3, t3⟩ := hf 3 _ rfl
      obtain ⟨v4, y4, c4, e4, t4⟩ := hf 4 _ rfl
      obtain ⟨v5, y5, c5, e5, t5⟩ := hf 5 _ rfl
      obtain ⟨k, hk, _, wk⟩ := DataW.trod_int Try.underlying3 t0
      obtain ⟨s, hs, _⟩ := DataW.trod_bool Try.underlying4 t1
      obtain ⟨x2, h2, _, w2⟩ := DataW.trod_int Try.underlying3 t2
      obtain ⟨x3, h3, _, w3⟩ := DataW.trod_int Try.underlying3 t3
      obtain ⟨x4, h4, _, w4⟩ := DataW.trod_int Try.underlying3 t4
      obtain ⟨bs, hby, hbd⟩ := read_bytes t5
      obtain rfl : v0 = .int .i64 k := by simpa using hk
      obtain rfl : v1 = .bool s := by simpa using hs
      obtain rfl : v2 = .int .i64 x2 := by simpa using h2
      obtain rfl : v3 = .int .i64 x3 := by simpa using h3
      obtain rfl : v4 = .int .i64 x4 := by simpa using h4
      refine ⟨⟨k, s, x2, x3, x4, v5, bs⟩, (fun hl : bs.length ≤ 140737488351232 => ⟨⟨i64_of wk, i64_of w2, i64_of w3, i64_of w4, hby, Nat.le_trans hl (by decide)⟩, hl⟩) ?_, c0, c1, c2, c3, c4, c5⟩
      rcases hbd with ⟨_, rfl⟩ | ⟨es, rest, hy, hes⟩
      · exact Nat.zero_le _
      · have hw := hall i hil ((es.length + rest.length) * Try.prog.bytesOf 5) (by
          rw [hD]
          simp only [DataW.weights, Try.underlying28]
          refine weightsEach_mem (j := 5) (t := 26) (d := .slice es rest) rfl ?_ _ ?_
          · rw [List.getElem?_map, e5, ← hy]; rfl
          · simp [DataW.weights, Try.underlying26])
        have h5 : Try.prog.bytesOf 5 = 1 := by kernel_rfl
        rw [h5] at hw
        omega)
    subst hl
    refine ⟨some a, cap, ops, rfl, hlen, fun i o ho => ?_, fun o ho => ?_⟩
    rotate_left
    · obtain ⟨i, hi'⟩ := List.mem_iff_getElem?.1 ho
      exact (hr i o hi').1.2
    obtain ⟨⟨h0, _⟩, c0, c1, c2, c3, c4, c5⟩ := hr i o ho
    refine ⟨h0, a, rfl, c0, ?_, ?_, ?_, ?_, ?_⟩
    · rw [add_off _ _ _ (by decide)] at c1; exact c1
    · rw [add_off _ _ _ (by decide)] at c2; exact c2
    · rw [add_off _ _ _ (by decide)] at c3; exact c3
    · rw [add_off _ _ _ (by decide)] at c4; exact c4
    · rw [add_off _ _ _ (by decide)] at c5; exact c5
end Go.Proofs.Ytdgcmihnbkamgaa
