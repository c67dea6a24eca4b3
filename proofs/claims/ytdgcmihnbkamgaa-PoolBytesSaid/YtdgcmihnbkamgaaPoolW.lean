/- PoolBytes: apart: the walk. Conditions: the lists lie in blocks of their own; each at most 2^47 bytes less a little. -/
import Derived.Test.YtdgcmihnbkamgaaPoolV
import Derived.BigQuiet
namespace Go.Proofs.Ytdgcmihnbkamgaa
open Go.RowKit
set_option linter.unusedVariables false
set_option linter.unusedSimpArgs false
set_option maxRecDepth 100000 in
set_option maxHeartbeats 4000000 in
theorem apart_calls (w : World) {ex : Nat → Prop} {v : Value} {N : Nat} {L : List (Value × List UInt8)} {rest : List Item} (hN : L.length = N) (h : Fam w ex (rowItem 26 1 v N (L.map (·.1)) :: (rowsB L ++ rest))) (hn : N ≤ 6597069766464) (hb : ∀ r, r ∈ L → r.2.length ≤ 140737488355300) :
    Calls Try.prog 24 #[v] w fun e w' => e = .returned (.bool true) ∧ Fam w' ex rest ∧ Turn (fun b => ¬ ex b) w w' := by
  obtain ⟨ok0, hR0, _⟩ := h.head
  obtain ⟨A, c, rfl, _⟩ := RowO.shape hR0
  obtain ⟨vs, hvs⟩ : ∃ vs, L.map (·.1) = vs := ⟨_, rfl⟩
  rw [hvs] at h
  have HF0 : Hid (Fam w ex (rowItem 9 1 (.slice none 0 0) 0 [] :: rowItem 26 1 (.slice A N c) N vs :: (rowsB [] ++ (rowsB L ++ rest)))) := Lib.hid (h.add (Below.refl _ _) (rowItem 9 1 (.slice none 0 0) 0 []) ⟨World.ownsRow_nil _ _ _ _, fun k hk => by cases hk⟩)
  have HP0 : Hid (Part N vs 140737488355300 0 [] L) := Lib.hid ⟨rfl, by simp [hN], by simpa using hvs, by simpa using hb⟩
  clear hR0 h hb hvs hN
  go_enter Try.func24, Try.ntmps24
  go_wp2
  go_loopg [3, 6] N (fun k v3 v6 wr => ∃ (i : Nat) (D E : List (Value × List UInt8)), i ≤ N ∧ v6 = .int .i64 i ∧ k = N - i ∧ Hid (Part N vs 140737488355300 i D E) ∧ Hid (Fam wr ex (rowItem 9 1 v3 i (D.map fun r => strV r.2) :: rowItem 26 1 (.slice A N c) N vs :: (rowsB D ++ (rowsB E ++ rest)))) ∧ Hid (Turn (fun b => ¬ ex b) w wr))
  case atStart => exact ⟨0, [], L, Nat.zero_le _, rfl, rfl, HP0, HF0, Lib.hid (Turn.refl _ _)⟩
  case round =>
    obtain ⟨i, D, E, hi, rfl, hq, HP, HF, HT⟩ := hrel
    have HQ := Lib.hid hq
    clear hq HF0 HP0
    obtain ⟨oks, hsh, _⟩ := HF.out.head
    obtain ⟨A3, c3, rfl, _⟩ := RowO.shape hsh
    clear hsh
    by_cases hil : i < N
    · obtain ⟨⟨r1, rb⟩, F, rfl, hvr, hrl⟩ := HP.out.split hil
      have HV := Lib.hid hvr
      have HRL := Lib.hid (show rb.length ≤ 140737488355300 from hrl)
      have HF1 : Hid (Fam wr ex (rowItem 5 1 r1 rb.length (rb.map U8) :: rowItem 9 1 (.slice A3 i c3) i (D.map fun r => strV r.2) :: rowItem 26 1 (.slice A N c) N vs :: (rowsB D ++ (rowsB F ++ rest)))) := Lib.hid (Fam.pull (rowItem 9 1 (.slice A3 i c3) i (D.map fun r => strV r.2) :: rowItem 26 1 (.slice A N c) N vs :: rowsB D) (rowsB F ++ rest) HF.out)
      obtain ⟨ok1, hrow, _⟩ := HF1.out.head
      obtain ⟨Ar, cr, er, _⟩ := RowO.shape hrow
      obtain ⟨oko, hout, _⟩ := HF1.out.tail.tail.head
      obtain ⟨g0, c0, e0, _, _⟩ := RowO.cell hout hvr
      dsimp only at er hrl
      subst er
      cases e0
      clear hrow hout hvr hrl HF
      have hlt : (i : Int) < (N : Int) := by omega
      have hi0 : (0 : Int) ≤ (i : Int) := by omega
      have hdec : decide ((i : Int) < (N : Int)) = true := decide_eq_true hlt
      go_wp2
      go_loopg [7] rb.length (fun k v7 wq => ∃ (q : Nat) (cs : List UInt8), q ≤ rb.length ∧ cs.length = rb.length ∧ v7 = .int .i64 q ∧ k = rb.length - q ∧ Hid (Fam wq ex (rowItem 5 1 (.slice Ar rb.length cr) rb.length (cs.map U8) :: rowItem 9 1 (.slice A3 i c3) i (D.map fun r => strV r.2) :: rowItem 26 1 (.slice (some ⟨g0, 0, none⟩) N c) N vs :: (rowsB D ++ (rowsB F ++ rest)))) ∧ Hid (Turn (fun b => ¬ ex b) w wq))
      case atStart => exact ⟨0, rb, Nat.zero_le _, rfl, rfl, rfl, HF1, HT⟩
      case round =>
        obtain ⟨q, cs, hql, hcs, rfl, hq2, HG, HT2⟩ := hrel
        have HQ2 := Lib.hid hq2
        have HCS := Lib.hid hcs
        clear hq2 hcs HF1 HT
        obtain ⟨oko, hout, _⟩ := HG.out.tail.tail.head
        obtain ⟨g', c', e', y0, _⟩ := RowO.cell hout HV.out
        cases e'
        clear hout
        by_cases hqr : q < rb.length
        · obtain ⟨x, hx⟩ : ∃ x, cs[q]? = some x := ⟨cs[q]'(by have := HCS.out; omega), List.getElem?_eq_getElem _⟩
          obtain ⟨ok, hP, _, hs⟩ := HG.out.turn
          obtain ⟨g, c2, e2, y1, y2, _⟩ := RowO.cell hP (j := q) (u := U8 x) (by rw [List.getElem?_map, hx]; rfl)
          cases e2
          obtain ⟨z, hz⟩ := u8_wrap ((i : Int) * 31 + (q : Int) * 7 + 1)
          have hput := RowO.put hP q (.int .u8 (IntKind.u8.wrap ((i : Int) * 31 + (q : Int) * 7 + 1)))
          have e3 : (cs.map U8).set q (.int .u8 (IntKind.u8.wrap ((i : Int) * 31 + (q : Int) * 7 + 1))) = (cs.set q z).map U8 := by rw [List.map_set, hz]
          rw [e3] at hput
          obtain ⟨hF2, hT2⟩ := hs _ (rowItem 5 1 (.slice (some ⟨g, 0, none⟩) rb.length cr) rb.length ((cs.set q z).map U8)) (hput.1.mono fun b hb => .inl hb) hput.2
          have HG2 := Lib.hid hF2
          have HT3 := Lib.hid (trans_ex HT2.out hT2)
          have f2 := y2 q
          have hq1 : (q : Int) < (rb.length : Int) := by omega
          have hq0 : (0 : Int) ≤ (q : Int) := by omega
          have hqd : decide ((q : Int) < (rb.length : Int)) = true := decide_eq_true hq1
          have hw1 : wrap64 ((i : Int) * 31) = (i : Int) * 31 := by unfold wrap64; omega
          have hw2 : wrap64 ((q : Int) * 7) = (q : Int) * 7 := by have := HRL.out; unfold wrap64; omega
          have hw3 : wrap64 ((i : Int) * 31 + (q : Int) * 7) = (i : Int) * 31 + (q : Int) * 7 := by have := HRL.out; unfold wrap64; omega
          have hw4 : wrap64 ((i : Int) * 31 + (q : Int) * 7 + 1) = (i : Int) * 31 + (q : Int) * 7 + 1 := by have := HRL.out; unfold wrap64; omega
          have hrl := HRL.out
          clear hx hP hs hput e3 hF2 hT2 y2 HG HT2 hz
          go_wp2
          go_roundg (rb.length - (q + 1))
          case measure => have := HQ2.out; omega
          case rel => exact ⟨q + 1, cs.set q z, by omega, by rw [List.length_set]; exact HCS.out, by go_num, rfl, HG2, HT3⟩
        · have hqd : decide ((q : Int) < (rb.length : Int)) = false := decide_eq_false (by omega)
          obtain ⟨okr, hrow, _⟩ := HG.out.head
          have s := (RowO.bys hrow HCS.out).str
          obtain ⟨ok, hP, _, hs⟩ := HG.out.swap.turn
          obtain ⟨v', w', hr, ho, ht', _⟩ := row_more _ 46 46 9 hP (.string ⟨cs.toArray⟩) Try.underlying46 info9 (by rfl) (by rfl) (by unfold Fits; omega) (by omega)
          obtain ⟨hF2, hT2⟩ := hs w' (rowItem 9 1 v' (i + 1) ((D.map fun r => strV r.2) ++ [strV cs])) ho ht'
          have HR2 := Lib.hid hr
          have HG2 := Lib.hid (Fam.push (rowItem 9 1 v' (i + 1) ((D.map fun r => strV r.2) ++ [strV cs]) :: rowItem 26 1 (.slice (some ⟨g0, 0, none⟩) N c) N vs :: rowsB D) (rowsB F ++ rest) hF2.swap)
          have HT3 := Lib.hid (trans_ex HT2.out hT2)
          have HP2 := Lib.hid (Part.step HP.out HCS.out)
          clear hrow hP hs hr ho ht' hF2 hT2 HG HT2 HP
          go_wp2_with (at_builtin; (refine wpList_append_run rfl _ _ _ rfl rfl rfl HR2.out ?_))
          go_roundg (N - (i + 1))
          case measure => have := HQ.out; omega
          case rel =>
            refine ⟨i + 1, D ++ [(.slice Ar rb.length cr, cs)], F, by omega, by go_num, rfl, HP2, ?_, HT3⟩
            have e : rowsB [(Value.slice Ar rb.length cr, cs)] = [rowItem 5 1 (.slice Ar rb.length cr) rb.length (cs.map U8)] := by rw [← HCS.out]; rfl
            refine Lib.hid ?_
            rw [rowsB_append, List.map_append, List.append_assoc, e]
            exact HG2.out
    · have hdec : decide ((i : Int) < (N : Int)) = false := decide_eq_false (by omega)
      obtain rfl : i = N := by omega
      have hgr := HP.out
      obtain ⟨rfl, hD1, hD2⟩ := HP.out.done
      have HG0 := Lib.hid (Grew.start hgr)
      obtain ⟨xs, hxs⟩ : ∃ xs, D.map (·.2) = xs := ⟨_, rfl⟩
      rw [hxs] at HG0
      have HF0 : Hid (Fam wr ex (rowItem 9 1 (.slice none 0 0) 0 [] :: rowItem 26 1 (.slice none 0 0) 0 [] :: rowItem 9 1 (.slice A3 i c3) i (xs.map strV) :: rowItem 26 1 (.slice A i c) i vs :: (rowsG [] ++ (rowsB D ++ rest)))) := Lib.hid (by
        have h := HF.out
        rw [show (D.map fun r => strV r.2) = xs.map strV by rw [← hxs, List.map_map]; rfl] at h
        exact (h.add (Below.refl _ _) (rowItem 26 1 (.slice none 0 0) 0 []) ⟨World.ownsRow_nil _ _ _ _, fun k hk => by cases hk⟩).add (Below.refl _ _) (rowItem 9 1 (.slice none 0 0) 0 []) ⟨World.ownsRow_nil _ _ _ _, fun k hk => by cases hk⟩)
      clear hxs hD1 hD2 HF HQ HP hgr
      go_wp2
      go_loopg [4, 5, 8] i (fun k v4 v5 v8 wr => ∃ (j : Nat) (G : List Gr) (E : List (Value × List UInt8)), j ≤ i ∧ v8 = .int .i64 j ∧ k = i - j ∧ Hid (Grew i vs xs 140737488355300 j G E) ∧ Hid (Fam wr ex (rowItem 9 1 v4 j (G.map fun g => strV (g.Y.drop g.X.length)) :: rowItem 26 1 v5 j (G.map (·.v2)) :: rowItem 9 1 (.slice A3 i c3) i (xs.map strV) :: rowItem 26 1 (.slice A i c) i vs :: (rowsG G ++ (rowsB E ++ rest)))) ∧ Hid (Turn (fun b => ¬ ex b) w wr))
      case atStart => exact ⟨0, [], D, Nat.zero_le _, rfl, rfl, HG0, HF0, HT⟩
      case round =>
        obtain ⟨j, G, E, hj, rfl, hq, HP, HF, HT2⟩ := hrel
        have HQ := Lib.hid hq
        clear hq HF0 HG0 HT
        obtain ⟨oks, hsh, _⟩ := HF.out.head
        obtain ⟨A4, c4, rfl, _⟩ := RowO.shape hsh
        obtain ⟨oks, hsh, _⟩ := HF.out.tail.head
        obtain ⟨A5, c5, rfl, _⟩ := RowO.shape hsh
        clear hsh
        by_cases hjl : j < i
        · obtain ⟨⟨r1, rb⟩, F, rfl, hvr, hrl⟩ := HP.out.split hjl
          have HV := Lib.hid hvr
          have HRL := Lib.hid (show rb.length ≤ 140737488355300 from hrl)
          have HF1 := Lib.hid (Fam.pull (rowItem 9 1 (.slice A4 j c4) j (G.map fun g => strV (g.Y.drop g.X.length)) :: rowItem 26 1 (.slice A5 j c5) j (G.map (·.v2)) :: rowItem 9 1 (.slice A3 i c3) i (xs.map strV) :: rowItem 26 1 (.slice A i c) i vs :: rowsG G) (rowsB F ++ rest) HF.out)
          obtain ⟨ok1, hrow, hokb⟩ := HF1.out.head
          obtain ⟨Ar, cr, er, _⟩ := RowO.shape hrow
          obtain ⟨oko, hout, _⟩ := HF1.out.tail.tail.tail.tail.head
          obtain ⟨g0, c0, e0, y0, _⟩ := RowO.cell hout hvr
          dsimp only at er hrl
          subst er
          cases e0
          obtain ⟨okg, hrow2, _, hsg⟩ := HF1.out.turn
          have HF2 : Hid (Fam wr ex (grownItem (.slice Ar rb.length cr) rb (.slice Ar rb.length cr) rb :: rowItem 9 1 (.slice A4 j c4) j (G.map fun g => strV (g.Y.drop g.X.length)) :: rowItem 26 1 (.slice A5 j c5) j (G.map (·.v2)) :: rowItem 9 1 (.slice A3 i c3) i (xs.map strV) :: rowItem 26 1 (.slice (some ⟨g0, 0, none⟩) i c) i vs :: (rowsG G ++ (rowsB F ++ rest)))) := Lib.hid (hsg wr _ (grownItem.start ⟨hrow2.1, fun k hk => .inl (hrow2.2 k hk)⟩) (Turn.refl _ _)).1
          have HT3 := Lib.hid HT2.out
          clear hrow hrow2 hsg hout hvr hrl HF HF1 HT2 hokb
          have hlt : (j : Int) < (i : Int) := by omega
          have hj0 : (0 : Int) ≤ (j : Int) := by omega
          have hdec : decide ((j : Int) < (i : Int)) = true := decide_eq_true hlt
          go_wp2
          go_loopg [9, 10] 16 (fun k v9 v10 wq => ∃ (t : Nat) (Y : List UInt8), t ≤ 16 ∧ Y.length = rb.length + t ∧ v10 = .int .i64 t ∧ k = 16 - t ∧ Hid (Fam wq ex (grownItem (.slice Ar rb.length cr) rb v9 Y :: rowItem 9 1 (.slice A4 j c4) j (G.map fun g => strV (g.Y.drop g.X.length)) :: rowItem 26 1 (.slice A5 j c5) j (G.map (·.v2)) :: rowItem 9 1 (.slice A3 i c3) i (xs.map strV) :: rowItem 26 1 (.slice (some ⟨g0, 0, none⟩) i c) i vs :: (rowsG G ++ (rowsB F ++ rest)))) ∧ Hid (Turn (fun b => ¬ ex b) w wq))
          case atStart => exact ⟨0, rb, Nat.zero_le _, rfl, rfl, rfl, HF2, HT3⟩
          case round =>
            obtain ⟨t, Y, ht, hY, rfl, hq3, HH, HT4⟩ := hrel
            have HQ3 := Lib.hid hq3
            have HY := Lib.hid hY
            clear hq3 hY HF2 HT3 y0
            by_cases ht16 : t < 16
            · obtain ⟨ok, hP, _, hs⟩ := HH.out.turn
              obtain ⟨z, hz⟩ := u8_wrap ((j : Int) * 13 + (t : Int) + 128)
              obtain ⟨v', w', hr, ho, ht'⟩ := grown_more _ 26 hP z (by have := HY.out; have := HRL.out; omega)
              rw [← hz] at hr
              obtain ⟨hF2, hT2⟩ := hs w' _ ho ht'
              have HR2 := Lib.hid hr
              have HH2 := Lib.hid hF2
              have HT5 := Lib.hid (trans_ex HT4.out hT2)
              have htd : decide ((t : Int) < 16) = true := decide_eq_true (by omega)
              have hw1 : wrap64 ((j : Int) * 13) = (j : Int) * 13 := by unfold wrap64; omega
              have hw2 : wrap64 ((j : Int) * 13 + (t : Int)) = (j : Int) * 13 + (t : Int) := by unfold wrap64; omega
              have hw3 : wrap64 ((j : Int) * 13 + (t : Int) + 128) = (j : Int) * 13 + (t : Int) + 128 := by unfold wrap64; omega
              clear hP hs hr ho ht' hF2 hT2 HH HT4 hz
              go_wp2_with (at_builtin; (refine wpList_append_run rfl _ _ _ rfl rfl rfl HR2.out ?_))
              go_roundg (16 - (t + 1))
              case measure => have := HQ3.out; omega
              case rel => exact ⟨t + 1, Y ++ [z], by omega, by rw [List.length_append, HY.out]; rfl, by go_num, rfl, HH2, HT5⟩
            · obtain rfl : t = 16 := by omega
              have htd : decide (((16 : Nat) : Int) < 16) = false := decide_eq_false (by omega)
              obtain ⟨okh, hgi, _⟩ := HH.out.head
              obtain ⟨A9, c9, e9, _, hpos⟩ := RowO.shape hgi.2.2
              obtain ⟨g9, rfl⟩ := hpos (by have := HY.out; omega)
              rw [HY.out] at e9
              subst e9
              clear hgi hpos
              obtain ⟨ok, hP, _, hs⟩ := HH.out.rot.turn
              obtain ⟨v', w1, hr, ho, ht', _⟩ := row_more _ 51 51 26 hP (.slice (some ⟨g9, 0, none⟩) (rb.length + 16) c9) Try.underlying51 info26 (by rfl) (by rfl) (by unfold Fits; omega) (by omega)
              obtain ⟨hF2, hT2⟩ := hs w1 (rowItem 26 1 v' (j + 1) _) ho ht'
              have HR2 := Lib.hid hr
              have HH2 := Lib.hid hF2
              have HT5 := Lib.hid (trans_ex HT4.out hT2)
              clear hP hs hr ho ht' hF2 hT2 HH HT4
              obtain ⟨oko, hout, _⟩ := HH2.out.tail.tail.tail.tail.head
              obtain ⟨g', c', e', y0, _⟩ := RowO.cell hout HV.out
              cases e'
              obtain ⟨okh, hgi, _⟩ := HH2.out.tail.head
              have hgi2 := hgi.2.2
              rw [HY.out] at hgi2
              have hcap := RowO.room hgi2
              have hcap0 : ¬ c9 = rb.length := by omega
              have hcap1 : ¬ c9 - rb.length = 0 := by omega
              have s := (RowO.tailBys hgi2 HY.out (d := rb.length) (by omega)).str
              rw [show rb.length + 16 - rb.length = 16 by omega] at s
              obtain ⟨ok, hP, _, hs⟩ := HH2.out.rot.turn
              obtain ⟨v2', w2, hr, ho, ht', _⟩ := row_more _ 46 46 9 hP (.string ⟨(Y.drop rb.length).toArray⟩) Try.underlying46 info9 (by rfl) (by rfl) (by unfold Fits; omega) (by omega)
              obtain ⟨hF2, hT2⟩ := hs w2 (rowItem 9 1 v2' (j + 1) _) ho ht'
              have HR3 := Lib.hid hr
              have HH3 := Lib.hid hF2
              have HT6 := Lib.hid (trans_ex HT5.out hT2)
              have HP2 := Lib.hid (HP.out.step (.slice (some ⟨g9, 0, none⟩) (rb.length + 16) c9) Y)
              have hl0 : (0 : Int) ≤ (rb.length : Int) := by omega
              have hl1 : (rb.length : Int) ≤ ((rb.length + 16 : Nat) : Int) := by omega
              clear hP hs hr ho ht' hF2 hT2 HH2 HT5 hout hgi hgi2 HP
              go_wp2_with (first | (at_builtin; (refine wpList_append_run rfl _ _ _ rfl rfl rfl HR3.out ?_)) | (at_builtin; (refine wpList_append_run rfl _ _ _ rfl rfl rfl HR2.out ?_)))
              go_roundg (i - (j + 1))
              case measure => have := HQ.out; omega
              case rel =>
                refine ⟨j + 1, _, F, by omega, by go_num, rfl, HP2, ?_, HT6⟩
                have h := Fam.push (rowItem 9 1 v2' (j + 1) _ :: rowItem 26 1 v' (j + 1) _ :: rowItem 9 1 (.slice A3 i c3) i (xs.map strV) :: rowItem 26 1 (.slice (some ⟨g0, 0, none⟩) i c) i vs :: rowsG G) (rowsB F ++ rest) HH3.out.rot
                refine Lib.hid ?_
                rw [rowsG_append, List.map_append, List.map_append, List.append_assoc]
                exact h
        · obtain rfl : j = i := by omega
          have hdec : decide ((j : Int) < (j : Int)) = false := decide_eq_false (by omega)
          obtain ⟨rfl, hG1, hG2, hG3⟩ := HP.out.done
          have HF3 := Lib.hid HF.out
          have HGL := Lib.hid (And.intro hG1 (And.intro hG2 hG3))
          have HT3 := Lib.hid HT2.out
          clear HF HT2 HP hG1 hG2 hG3 HQ
          go_wp2
          go_loopg [11] j (fun k v11 wr => ∃ q : Nat, q ≤ j ∧ v11 = .int .i64 q ∧ k = j - q ∧ Hid (Fam wr ex (rowItem 9 1 (.slice A4 j c4) j (G.map fun g => strV (g.Y.drop g.X.length)) :: rowItem 26 1 (.slice A5 j c5) j (G.map (·.v2)) :: rowItem 9 1 (.slice A3 j c3) j (xs.map strV) :: rowItem 26 1 (.slice A j c) j vs :: (rowsG G ++ (rowsB [] ++ rest)))) ∧ Hid (Turn (fun b => ¬ ex b) w wr))
          case atStart => exact ⟨0, Nat.zero_le _, rfl, rfl, HF3, HT3⟩
          case round =>
            obtain ⟨q, hq, rfl, hqq, HF, HT4⟩ := hrel
            have HQ := Lib.hid hqq
            clear hqq HF3 HT3
            by_cases hql : q < j
            · obtain ⟨gr, hgr⟩ : ∃ gr, G[q]? = some gr := ⟨G[q]'(by have := HGL.out.1; omega), List.getElem?_eq_getElem _⟩
              obtain ⟨hL, hV, hX⟩ := HGL.out
              obtain ⟨_, hr1, _⟩ := HF.out.head
              obtain ⟨g4, e4, f4, z4, _⟩ := RowO.cell hr1 (j := q) (u := strV (gr.Y.drop gr.X.length)) (by rw [List.getElem?_map, hgr]; rfl)
              cases f4
              obtain ⟨_, hr1, _⟩ := HF.out.tail.head
              obtain ⟨g5, e5, f5, z5, _⟩ := RowO.cell hr1 (j := q) (u := gr.v2) (by rw [List.getElem?_map, hgr]; rfl)
              cases f5
              obtain ⟨_, hr1, _⟩ := HF.out.tail.tail.head
              obtain ⟨g3, e3, f3, z3, _⟩ := RowO.cell hr1 (j := q) (u := strV gr.X) (by rw [← hX, List.map_map, List.getElem?_map, hgr]; rfl)
              cases f3
              obtain ⟨_, hr1, _⟩ := HF.out.tail.tail.tail.head
              obtain ⟨g0, e0, f0, z0, _⟩ := RowO.cell hr1 (j := q) (u := gr.v) (by rw [← hV, List.getElem?_map, hgr]; rfl)
              cases f0
              obtain ⟨_, hp, hrc, hro⟩ := (HF.out.tail.tail.tail.tail.below (Below.drew (Below.refl _ _))).mem (i := grownItem gr.v gr.X gr.v2 gr.Y) (List.mem_append_left _ (List.mem_map_of_mem (List.mem_of_getElem? hgr)))
              have s1 := hrc.str
              have s2 := (RowO.rowC hro).str
              obtain ⟨A1, c1, ev⟩ := hrc.1
              obtain ⟨A2, c2, ev2, _⟩ := RowO.shape hro
              have hcat := cat_drop hp
              have hfit := cat_fits hp (RowO.short hro)
              obtain ⟨gv, gX, gv2, gY⟩ := gr
              dsimp only at *
              subst ev ev2
              clear hr1 hp hrc hro hL hV hX hgr
              have hlt : (q : Int) < (j : Int) := by omega
              have hq0 : (0 : Int) ≤ (q : Int) := by omega
              have hdec2 : decide ((q : Int) < (j : Int)) = true := decide_eq_true hlt
              unfold strV at z3 z4
              go_wp2
              go_region_held3 (fun w' => (w'.cell? ⟨g0, q, none⟩ = some (.slice A1 gX.length c1) ∧ w'.cell? ⟨g3, q, none⟩ = some (.string ⟨gX.toArray⟩) ∧ w'.cell? ⟨g4, q, none⟩ = some (.string ⟨(gY.drop gX.length).toArray⟩) ∧ w'.cell? ⟨g5, q, none⟩ = some (.slice A2 gY.length c2)) ∧ (convert 26 9 (.slice A1 gX.length c1)).run Try.prog w' = .ok (.string ⟨gX.toArray⟩) w' ∧ (convert 26 9 (.slice A2 gY.length c2)).run Try.prog w' = .ok (.string ⟨gY.toArray⟩) w')
                (exact ⟨⟨z0, z3, z4, z5⟩, s1, s2⟩)
                (fail)
              go_wp2
              go_roundg (j - (q + 1))
              case measure => have := HQ.out; omega
              case rel => exact ⟨q + 1, by omega, by go_num, rfl, Lib.hid (HF.out.below (Below.drew (Below.refl _ _))), Lib.hid (trans_ex HT4.out (Turn.of_below (Below.drew (Below.refl _ _))))⟩
            · have hdec2 : decide ((q : Int) < (j : Int)) = false := decide_eq_false (by omega)
              go_wp2
              go_ret
              exact ⟨rfl, HF.out.tail.tail.tail.tail.drop _, HT4.out⟩
end Go.Proofs.Ytdgcmihnbkamgaa
