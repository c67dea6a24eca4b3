/- PoolBytes: spoil: the walk. Conditions: the lists lie in blocks of their own; each at most 2^40 bytes. -/
import Derived.Test.YtdgcmihnbkamgaaPoolR
namespace Go.Proofs.Ytdgcmihnbkamgaa
open Go.RowKit
set_option linter.unusedVariables false
set_option linter.unusedSimpArgs false
theorem RowO.cell {w : World} {ok : Nat → Prop} {e : TypeId} {v : Value} {n : Nat} {cs : List Value} (h : RowO w ok e 1 v n cs) {j : Nat} {u : Value} (hj : cs[j]? = some u) : ∃ g c, v = .slice (some ⟨g, 0, none⟩) n c ∧ w.cell? ⟨g, j, none⟩ = some u ∧ (∀ k, w.frozen? ⟨g, k, none⟩ = false) ∧ ok g := by
  obtain ⟨A, c, rfl, _, _⟩ := h.shape
  rcases h.1.2 with ⟨hx, h0⟩ | ⟨g, c', cur, hx, h3, hg, h4⟩
  · have h1 := h.1.1
    have := (List.getElem?_eq_some_iff.1 hj).1
    subst h0
    simp at h1
    subst h1
    simp at this
  · injection hx with e1 e2 e3
    subst e1 e3
    refine ⟨g, c, rfl, ?_, fun k => Lib.frozen_of_heap hg _, h.2 g rfl⟩
    have := h.1.cells (g := g) rfl j u hj
    rw [add_zero_off] at this
    exact this
def rowsB (L : List (Value × List UInt8)) : List Item := L.map fun r => rowItem 5 1 r.1 r.2.length (r.2.map U8)
theorem Fam.tail {w : World} {ex : Nat → Prop} {i : Item} {l : List Item} (h : Fam w ex (i :: l)) : Fam w ex l := by
  obtain ⟨oks, h1, h2, h3, h4⟩ := h
  cases h1 with
  | cons a t => exact ⟨_, t, (List.pairwise_cons.1 h2).2, fun ok ho => h3 ok (by simp [ho]), h4⟩
theorem Fam.swap {w : World} {ex : Nat → Prop} {i j : Item} {l : List Item} (h : Fam w ex (i :: j :: l)) : Fam w ex (j :: i :: l) := h.perm (.swap _ _ _)
theorem Fam.head {w : World} {ex : Nat → Prop} {i : Item} {l : List Item} (h : Fam w ex (i :: l)) : ∃ ok, i.P w ok ∧ ∀ b, ok b → ¬ ex b ∧ b < w.heap.size := by
  obtain ⟨ok, h1, h2, _⟩ := h.turn
  exact ⟨ok, h1, h2⟩
theorem trans_ex {a b c : World} {ex : Nat → Prop} (h : Turn (fun b => ¬ ex b) a b) (k : Turn (fun b => ¬ ex b) b c) : Turn (fun b => ¬ ex b) a c := h.trans (k.mono fun b hb => .inl hb)
set_option maxRecDepth 100000 in
set_option maxHeartbeats 4000000 in
theorem spoil_calls (w : World) {ex : Nat → Prop} {v : Value} {L : List (Value × List UInt8)} {rest : List Item} (h : Fam w ex (rowItem 26 1 v L.length (L.map (·.1)) :: (rowsB L ++ rest))) (hn : L.length ≤ 6597069766464) (hb : ∀ r, r ∈ L → r.2.length ≤ 140737488351232) :
    Calls Try.prog 22 #[v] w fun e w' => e = .returned (.tuple #[]) ∧ Fam w' ex rest ∧ Turn (fun b => ¬ ex b) w w' := by
  obtain ⟨ok0, hR0, _⟩ := h.head
  obtain ⟨A, c, rfl, _⟩ := RowO.shape hR0
  have HB := Lib.hid hb
  have HF0 := Lib.hid h
  clear hR0 h hb
  go_enter Try.func22, Try.ntmps22
  go_wp2
  go_loopg [2] L.length (fun k v2 wr => ∃ i : Nat, i ≤ L.length ∧ v2 = .int .i64 i ∧ k = L.length - i ∧ Hid (Fam wr ex (rowItem 26 1 (.slice A L.length c) L.length (L.map (·.1)) :: (rowsB (L.drop i) ++ rest))) ∧ Hid (Turn (fun b => ¬ ex b) w wr))
  case atStart => exact ⟨0, Nat.zero_le _, rfl, rfl, HF0, Lib.hid (Turn.refl _ _)⟩
  case round =>
    obtain ⟨i, hi, rfl, hq, HF, HT⟩ := hrel
    have HQ := Lib.hid hq
    clear hq HF0
    by_cases hil : i < L.length
    · obtain ⟨r, hr⟩ : ∃ r, L[i]? = some r := ⟨L[i], List.getElem?_eq_getElem hil⟩
      have hdrop : L.drop i = r :: L.drop (i + 1) := by
        rw [List.drop_eq_getElem_cons hil]
        rw [List.getElem?_eq_getElem hil] at hr
        injection hr with hr
        rw [hr]
      have HF1 : Hid (Fam wr ex (rowItem 5 1 r.1 r.2.length (r.2.map U8) :: rowItem 26 1 (.slice A L.length c) L.length (L.map (·.1)) :: (rowsB (L.drop (i + 1)) ++ rest))) := Lib.hid (by
        have := HF.out
        rw [hdrop] at this
        exact this.swap)
      have hbr : r.2.length ≤ 140737488351232 := HB.out r (List.mem_of_getElem? hr)
      have HR : Hid ((L.map (·.1))[i]? = some r.1) := Lib.hid (by rw [List.getElem?_map, hr]; rfl)
      obtain ⟨ok1, hrow, _⟩ := HF1.out.head
      obtain ⟨Ar, cr, er, _⟩ := RowO.shape hrow
      clear hr hdrop HF hrow
      obtain ⟨r1, rb⟩ := r
      dsimp only at er HF1 hbr HR
      subst er
      obtain ⟨oko, hout, _⟩ := HF1.out.tail.head
      obtain ⟨g0, c0, e0, _, _⟩ := RowO.cell hout HR.out
      cases e0
      have hlt : (i : Int) < (L.length : Int) := by omega
      have hi0 : (0 : Int) ≤ (i : Int) := by omega
      have hdec : decide ((i : Int) < (L.length : Int)) = true := decide_eq_true hlt
      clear hout
      go_wp2
      go_loopg [3] rb.length (fun k v3 wq => ∃ (q : Nat) (cs : List UInt8), q ≤ rb.length ∧ cs.length = rb.length ∧ v3 = .int .i64 q ∧ k = rb.length - q ∧ Hid (Fam wq ex (rowItem 5 1 (.slice Ar rb.length cr) rb.length (cs.map U8) :: rowItem 26 1 (.slice (some ⟨g0, 0, none⟩) L.length c) L.length (L.map (·.1)) :: (rowsB (L.drop (i + 1)) ++ rest))) ∧ Hid (Turn (fun b => ¬ ex b) w wq))
      case atStart => exact ⟨0, rb, Nat.zero_le _, rfl, rfl, rfl, HF1, HT⟩
      case round =>
        obtain ⟨q, cs, hql, hcs, rfl, hq2, HG, HT2⟩ := hrel
        have HQ2 := Lib.hid hq2
        have HCS := Lib.hid hcs
        clear hq2 hcs HF1 HT
        obtain ⟨oko, hout, _⟩ := HG.out.tail.head
        obtain ⟨g', c', e', y0, _⟩ := RowO.cell hout HR.out
        cases e'
        clear hout
        by_cases hqr : q < rb.length
        · obtain ⟨x, hx⟩ : ∃ x, cs[q]? = some x := ⟨cs[q]'(by have := HCS.out; omega), List.getElem?_eq_getElem _⟩
          obtain ⟨ok, hP, _, hs⟩ := HG.out.turn
          obtain ⟨g, c2, e2, y1, y2, _⟩ := RowO.cell hP (j := q) (u := U8 x) (by rw [List.getElem?_map, hx]; rfl)
          cases e2
          have hput := RowO.put hP q (U8 255)
          have e3 : (cs.map U8).set q (U8 255) = (cs.set q 255).map U8 := by rw [List.map_set]
          rw [e3] at hput
          obtain ⟨hF2, hT2⟩ := hs _ (rowItem 5 1 (.slice (some ⟨g, 0, none⟩) rb.length cr) rb.length ((cs.set q 255).map U8)) (hput.1.mono fun b hb => .inl hb) hput.2
          have HG2 := Lib.hid hF2
          have HT3 := Lib.hid (trans_ex HT2.out hT2)
          have f2 := y2 q
          have hq1 : (q : Int) < (rb.length : Int) := by omega
          have hq0 : (0 : Int) ≤ (q : Int) := by omega
          have hqd : decide ((q : Int) < (rb.length : Int)) = true := decide_eq_true hq1
          clear hx hP hs hput e3 hF2 hT2 y2 HG HT2
          go_wp2
          go_roundg (rb.length - (q + 1))
          case measure => have := HQ2.out; omega
          case rel => exact ⟨q + 1, cs.set q 255, by omega, by rw [List.length_set]; exact HCS.out, by go_num, rfl, HG2, HT3⟩
        · have hqd : decide ((q : Int) < (rb.length : Int)) = false := decide_eq_false (by omega)
          have HCN := Lib.hid (show rb.length ≤ 140737488351232 from hbr)
          go_wp2
          go_loopg [4, 5] 8 (fun k v4 v5 wq' => ∃ (t m : Nat) (ds : List Value), t ≤ 8 ∧ m ≤ 140737488351232 + t ∧ v5 = .int .i64 t ∧ k = 8 - t ∧ Hid (Fam wq' ex (rowItem 5 1 v4 m ds :: rowItem 26 1 (.slice (some ⟨g0, 0, none⟩) L.length c) L.length (L.map (·.1)) :: (rowsB (L.drop (i + 1)) ++ rest))) ∧ Hid (Turn (fun b => ¬ ex b) w wq'))
          case atStart => exact ⟨0, rb.length, _, by omega, by omega, rfl, rfl, HG, HT2⟩
          case round =>
            obtain ⟨t, m, ds, ht, hm, rfl, hq3, HH, HT3⟩ := hrel
            have HQ3 := Lib.hid hq3
            clear hq3 HG HT2 y0
            by_cases ht8 : t < 8
            · obtain ⟨ok, hP, _, hs⟩ := HH.out.turn
              obtain ⟨v', w', hr, ho, ht'⟩ := row_push _ 26 26 5 hP #[.int .u8 254] Try.underlying26 info5 (by rfl) (by decide) (by rfl) (by intro u hu; simp at hu; subst hu; rfl) (by omega) (by omega)
              obtain ⟨hF2, hT2⟩ := hs w' (rowItem 5 1 v' (m + 1) _) ho ht'
              have HR2 := Lib.hid hr
              have HH2 := Lib.hid hF2
              have HT4 := Lib.hid (trans_ex HT3.out hT2)
              have htd : decide ((t : Int) < 8) = true := decide_eq_true (by omega)
              have HM := Lib.hid hm
              clear hP hs hr ho ht' hF2 hT2 HH HT3 hm
              go_wp2_with (at_builtin; (refine wpList_append_run rfl _ _ _ rfl rfl rfl HR2.out ?_))
              go_roundg (8 - (t + 1))
              case measure => have := HQ3.out; omega
              case rel => exact ⟨t + 1, m + 1, _, by omega, by have := HM.out; omega, by go_num, rfl, HH2, HT4⟩
            · have htd : decide ((t : Int) < 8) = false := decide_eq_false (by omega)
              have HH2 := Lib.hid HH.out.tail
              clear HH
              go_wp2
              go_roundg (L.length - (i + 1))
              case measure => have := HQ.out; omega
              case rel => exact ⟨i + 1, by omega, by go_num, rfl, HH2, HT3⟩
    · have hdec : decide ((i : Int) < (L.length : Int)) = false := decide_eq_false (by omega)
      have HD := Lib.hid (show rowsB (L.drop i) = [] by rw [List.drop_eq_nil_of_le (by omega)]; rfl)
      go_wp2
      go_end0
      refine ⟨by simp, ?_, HT.out⟩
      have := HF.out.tail
      rw [HD.out] at this
      exact this
end Go.Proofs.Ytdgcmihnbkamgaa
