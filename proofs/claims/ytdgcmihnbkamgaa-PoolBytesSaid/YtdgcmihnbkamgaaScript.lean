/- A script of pool steps, read out of an argument: its steps one by one, small as the form's reach says. No condition. -/
import Derived.Test.YtdgcmihnbkamgaaPoolE
import Derived.ProofKit
import Derived.OpenShut
import Derived.ChangeArms
import Derived.ChangeSame
import Derived.SizedLaws
import Derived.Deep.Slices
import Derived.Deep.Fields
namespace Go.Proofs.Ytdgcmihnbkamgaa
open Go.ChangeShapes Go.WideShapes Go.ChangeAt Go.RowKit Go.Deep
set_option linter.unusedVariables false
section
variable {H : Type} {enc : TypeId × Value → H} {P : Program} {w : World} {base : Nat} {spare : Nat → Bool} {held : Bool}
theorem open_slice_fields {t e : TypeId} {fs : Array Field} {fuel : Nat} {cs : List Value} {x : DataW H × List MemPlace} (ht : P.underlying t = some (.slice e)) (he : P.underlying e = some (.struct fs))
    (hone : oneCellFields P fs = true) (hC : P.cellsOf e = fs.size) (h : DataW.trod enc P w base spare held fuel t cs = some x) :
    (cs = [.slice none 0 0] ∧ x = (.nil, [])) ∨
    ∃ (a : Addr) (len cap m : Nat) (D : Nat → DataW H) (Pl : Nat → List MemPlace), cs = [.slice (some a) len cap] ∧ base ≤ a.block ∧ len ≤ cap ∧ cap ≤ maxLen ∧ m = (if spare a.block then cap else len) ∧
      x = (.slice ((List.range len).map D) ((List.range (m - len)).map fun j => D (len + j)), MemPlace.row a (m * fs.size) ++ (List.range m).flatMap Pl) ∧
      ∀ i, i < m → ∃ (ys : List (DataW H × List MemPlace)) (n : Nat), D i = .agg (ys.map (·.1)) ∧ Pl i = ys.flatMap (·.2) ∧ ys.length = fs.size ∧
        ∀ (j : Nat) (f : Field), fs[j]? = some f → ∃ (v : Value) (y : DataW H × List MemPlace), w.cell? (a.add (i * fs.size + j)) = some v ∧ ys[j]? = some y ∧ DataW.trod enc P w base spare held n f.type [v] = some y := by
  rcases open_slice ht h with h0 | ⟨a, len, cap, m, n, D, Pl, hcs, hb, hl, hm, hmm, hx, hi⟩
  · exact .inl h0
  · refine .inr ⟨a, len, cap, m, D, Pl, hcs, hb, hl, hm, hmm, by rw [hC] at hx; exact hx, fun i him => ?_⟩
    obtain ⟨cs', hc, ht'⟩ := hi i him
    rw [hC] at hc
    obtain ⟨ys, n', hn', hy, hlen, hyl, hf⟩ := DataW.trod_struct he ht'
    obtain ⟨_, hcl, hat⟩ := World.cells?_some hc
    simp only [Prod.mk.injEq] at hy
    refine ⟨ys, n', hy.1, hy.2, hyl, fun j f hj => ?_⟩
    obtain ⟨ho, hk⟩ := hone_of hone j f hj
    have hjl : j < fs.size := (Array.getElem?_eq_some_iff.1 hj).1
    have hcell := hat j hjl
    have hv : cs'[j]? = some (cs'[j]'(by omega)) := List.getElem?_eq_getElem (by omega)
    have h1 := hf j f hj
    rw [ho, hk] at h1
    have hone' : (cs'.drop j).take 1 = [cs'[j]'(by omega)] := by
      rw [List.drop_eq_getElem_cons (by omega)]
      rfl
    rw [hone'] at h1
    have hys : ys[j]? = some (ys[j]'(by omega)) := List.getElem?_eq_getElem (by omega)
    refine ⟨_, _, ?_, hys, h1.trans hys⟩
    rw [← Go.Deep.add_add, hcell, hv]
theorem weightsAll_mem {e : TypeId} {d : DataW H} : ∀ {l : List (DataW H)}, d ∈ l → ∀ n, n ∈ DataW.weights P e d → n ∈ DataW.weightsAll P e l
  | x :: r, hd, n, hn => by
    simp only [DataW.weightsAll, List.mem_append]
    rcases List.mem_cons.1 hd with rfl | h
    · exact Or.inl hn
    · exact Or.inr (weightsAll_mem h n hn)
theorem weightsEach_mem {t : TypeId} {d : DataW H} : ∀ {ts : List TypeId} {ds : List (DataW H)} {j : Nat}, ts[j]? = some t → ds[j]? = some d → ∀ n, n ∈ DataW.weights P t d → n ∈ DataW.weightsEach P ts ds
  | t0 :: ts, d0 :: ds, 0, ht, hd, n, hn => by
    simp at ht hd
    subst ht hd
    simp only [DataW.weightsEach, List.mem_append]
    exact Or.inl hn
  | t0 :: ts, d0 :: ds, j + 1, ht, hd, n, hn => by
    simp at ht hd
    simp only [DataW.weightsEach, List.mem_append]
    exact Or.inr (weightsEach_mem ht hd n hn)
end
/-- A list out of its elements, one by one. -/
theorem pick {α : Type} (n : Nat) (R : Nat → α → Prop) (h : ∀ i, i < n → ∃ x, R i x) : ∃ l : List α, l.length = n ∧ ∀ (i : Nat) (x : α), l[i]? = some x → R i x := by
  induction n with
  | zero => exact ⟨[], rfl, fun i x hx => by simp at hx⟩
  | succ n ih =>
    obtain ⟨l, hl, hr⟩ := ih fun i hi => h i (by omega)
    obtain ⟨x, hx⟩ := h n (by omega)
    refine ⟨l ++ [x], by simp [hl], fun i y hy => ?_⟩
    rcases Nat.lt_or_ge i n with hlt | hge
    · rw [List.getElem?_append_left (by omega)] at hy
      exact hr i y hy
    · rw [List.getElem?_append_right (by omega)] at hy
      have e : i = n := by
        have h1 := (List.getElem?_eq_some_iff.1 hy).1
        simp at h1
        omega
      subst e
      rw [hl, Nat.sub_self] at hy
      obtain rfl : x = y := by simpa using hy
      exact hx
theorem add_off (a : Addr) (i k : Nat) (hk : 0 < k) : a.add (i + k) = ⟨(a.add i).block, (a.add i).off + k, none⟩ := by
  unfold Addr.add
  rw [if_neg (by omega)]
  split
  · rename_i h; subst h; simp
  · simp; omega
theorem i64_of {e : Int} (wf : (Lit.int .i64 e).wf = true) : int64 e := by
  have := wf
  simp only [Lit.wf, Bool.and_eq_true, decide_eq_true_eq] at this
  have e1 : IntKind.i64.min = -9223372036854775808 := by decide
  have e2 : IntKind.i64.max = 9223372036854775807 := by decide
  unfold int64
  omega
theorem u8_of {e : Int} (wf : (Lit.int .u8 e).wf = true) : ∃ x : UInt8, Value.int .u8 e = U8 x := by
  have := wf
  simp only [Lit.wf, Bool.and_eq_true, decide_eq_true_eq] at this
  have e1 : IntKind.u8.min = 0 := by decide
  have e2 : IntKind.u8.max = 255 := by decide
  refine ⟨UInt8.ofNat e.toNat, ?_⟩
  unfold U8
  congr 1
  simp
  omega
/-- Bytes that came in. -/
theorem read_bytes {H : Type} {enc : TypeId × Value → H} {W : World} {base : Nat} {sp : Nat → Bool} {held : Bool} {n : Nat} {v : Value} {y : DataW H × List MemPlace} (h : DataW.trod enc Try.prog W base sp held n 26 [v] = some y) :
    ∃ bs, Bys W (fun b => b < W.heap.size) v bs ∧ ((y.1 = .nil ∧ bs = []) ∨ ∃ es rest, y.1 = .slice es rest ∧ es.length = bs.length) := by
  rcases open_slice Try.underlying26 h with ⟨hcs, hx⟩ | ⟨a, len, cap, m, n, D, Pl, hcs, hb, hlc, hcm, hm, hx, hi⟩
  · obtain rfl : v = .slice none 0 0 := by simpa using hcs
    exact ⟨[], .inl ⟨rfl, rfl⟩, .inl ⟨by rw [hx], rfl⟩⟩
  · obtain rfl : v = .slice (some a) len cap := by simpa using hcs
    have hlm : len ≤ m := by rw [hm]; split <;> omega
    have h5 : Try.prog.cellsOf 5 = 1 := by kernel_rfl
    obtain ⟨bs, hl, hr⟩ := pick (α := UInt8) len (fun i x => W.cell? (a.add i) = some (U8 x)) (by
      intro i hil
      obtain ⟨cs', hc, ht⟩ := hi i (by omega)
      rw [h5] at hc
      obtain ⟨e, he, _, wf⟩ := DataW.trod_int Try.underlying5 ht
      obtain ⟨_, hcl, hat⟩ := World.cells?_some hc
      obtain ⟨x, hx⟩ := u8_of wf
      refine ⟨x, ?_⟩
      have h0 := hat 0 (by omega)
      rw [he] at h0
      have e2 : (a.add (i * 1)).add 0 = a.add i := by rw [Nat.mul_one]; rfl
      rw [e2] at h0
      rw [← hx]
      simpa using h0)
    subst hl
    refine ⟨bs, .inr ⟨a, cap, rfl, hlc, hcm, fun hne => ?_, fun j u hj => ?_⟩, .inr ⟨_, _, by rw [hx], by simp⟩⟩
    · cases bs with
      | nil => exact absurd rfl hne
      | cons x bs =>
        have hlt := World.block_lt_of_cell? W _ (hr 0 x rfl)
        rw [add_block] at hlt
        exact hlt
    · obtain ⟨x, hx, rfl⟩ : ∃ x, bs[j]? = some x ∧ U8 x = u := by simpa using hj
      exact hr j x hx
/-- The script. -/
theorem read_script {H : Type} {enc : TypeId × Value → H} {W : World} {base : Nat} {sp : Nat → Bool} {held : Bool} {n : Nat} {v : Value} {d : DataW H} {p : List MemPlace} (h : DataW.trod enc Try.prog W base sp held n 22 [v] = some (d, p)) (hsz : (DataW.weightsEach Try.prog [22] [d]).all (· ≤ reachBytes) = true) :
    ∃ A c ops, v = .slice A ops.length c ∧ ops.length < 2199023255552 ∧ ScAt W A ops := by
  have hR : reachBytes = 140737488351232 := by decide
  rcases open_slice_fields Try.underlying22 Try.underlying28 (by kernel_rfl) (by kernel_rfl) h with ⟨hcs, _⟩ | ⟨a, len, cap, m, D, Pl, hcs, hb, hlc, hcm, hm, hx, hi⟩
  · obtain rfl : v = .slice none 0 0 := by simpa using hcs
    exact ⟨none, 0, [], rfl, (by decide), fun i o ho => by simp at ho⟩
  · obtain rfl : v = .slice (some a) len cap := by simpa using hcs
    have hlm : len ≤ m := by rw [hm]; split <;> omega
    simp only [Prod.mk.injEq] at hx
    have hd := hx.1
    subst hd
    have h28 : Try.prog.bytesOf 28 = 64 := by kernel_rfl
    have hlen : len < 2199023255552 := by
      have := sized_slice hsz (j := 0) (t := 22) rfl rfl Try.underlying22
      rw [h28] at this
      simp only [List.length_map, List.length_range] at this
      omega
    have hall := fun i (hil : i < len) n (hn : n ∈ DataW.weights Try.prog 28 (D i)) => of_decide_eq_true (List.all_eq_true.1 hsz n (by
      refine weightsEach_mem (j := 0) (t := 22) rfl rfl n ?_
      simp only [DataW.weights, Try.underlying22, List.mem_cons, List.mem_append]
      exact Or.inr (Or.inl (weightsAll_mem (List.mem_map.2 ⟨i, List.mem_range.2 hil, rfl⟩) n hn))))
    obtain ⟨ops, hl, hr⟩ := pick (α := OpR) len (fun i o => OpOk W o ∧ W.cell? (a.add (i * 6)) = some (.int .i64 o.k) ∧ W.cell? (a.add (i * 6 + 1)) = some (.bool o.s) ∧ W.cell? (a.add (i * 6 + 2)) = some (.int .i64 o.n) ∧ W.cell? (a.add (i * 6 + 3)) = some (.int .i64 o.x) ∧ W.cell? (a.add (i * 6 + 4)) = some (.int .i64 o.y) ∧ W.cell? (a.add (i * 6 + 5)) = some o.v) (by
      intro i hil
      obtain ⟨ys, n', hD, _, hyl, hf⟩ := hi i (by omega)
      obtain ⟨v0, y0, c0, e0, t0⟩ := hf 0 _ rfl
      obtain ⟨v1, y1, c1, e1, t1⟩ := hf 1 _ rfl
      obtain ⟨v2, y2, c2, e2, t2⟩ := hf 2 _ rfl
      obtain ⟨v3, y3, c3, e3, t3⟩ := hf 3 _ rfl
      obtain ⟨v4, y4, c4, e4, t4⟩ := hf 4 _ rfl
      obtain ⟨v5, y5, c5, e5, t5⟩ := hf 5 _ rfl
      obtain ⟨k, hk, _, wk⟩ := DataW.trod_int Try.underlying3 t0
      obtain ⟨s, hs, _⟩ := DataW.trod_bool Try.underlying4 t1
      obtain ⟨x2, h2, _, w2⟩ := DataW.trod_int Try.underlying3 t2
      obtain ⟨x3, h3, _, w3⟩ := DataW.trod_int Try.underlying3 t3
      obtain ⟨x4, h4, _, w4⟩ := DataW.trod_int Try.underlying3 t4
      obtain ⟨bs, hby, hbd⟩ := read_bytes t5
      obtain rfl : v0 = .int .i64 k := by simpa using hk
      obtain rfl : v1 = .bool s := by simpa using hs
      obtain rfl : v2 = .int .i64 x2 := by simpa using h2
      obtain rfl : v3 = .int .i64 x3 := by simpa using h3
      obtain rfl : v4 = .int .i64 x4 := by simpa using h4
      refine ⟨⟨k, s, x2, x3, x4, v5, bs⟩, ⟨i64_of wk, i64_of w2, i64_of w3, i64_of w4, hby, ?_⟩, c0, c1, c2, c3, c4, c5⟩
      rcases hbd with ⟨_, rfl⟩ | ⟨es, rest, hy, hes⟩
      · exact Nat.zero_le _
      · have hw := hall i hil ((es.length + rest.length) * Try.prog.bytesOf 5) (by
          rw [hD]
          simp only [DataW.weights, Try.underlying28]
          refine weightsEach_mem (j := 5) (t := 26) (d := .slice es rest) rfl ?_ _ ?_
          · rw [List.getElem?_map, e5, ← hy]; rfl
          · simp [DataW.weights, Try.underlying26])
        have h5 : Try.prog.bytesOf 5 = 1 := by kernel_rfl
        rw [h5] at hw
        show bs.length ≤ _
        omega)
    subst hl
    refine ⟨some a, cap, ops, rfl, hlen, fun i o ho => ?_⟩
    obtain ⟨h0, c0, c1, c2, c3, c4, c5⟩ := hr i o ho
    refine ⟨h0, a, rfl, c0, ?_, ?_, ?_, ?_, ?_⟩
    · rw [add_off _ _ _ (by decide)] at c1; exact c1
    · rw [add_off _ _ _ (by decide)] at c2; exact c2
    · rw [add_off _ _ _ (by decide)] at c3; exact c3
    · rw [add_off _ _ _ (by decide)] at c4; exact c4
    · rw [add_off _ _ _ (by decide)] at c5; exact c5
end Go.Proofs.Ytdgcmihnbkamgaa
