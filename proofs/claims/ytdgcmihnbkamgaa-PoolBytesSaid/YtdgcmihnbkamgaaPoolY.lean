/- PoolBytes: apartInts: the walk. Conditions: the lists lie in blocks of their own; each at most 2^42 numbers. -/
import Derived.Test.YtdgcmihnbkamgaaPoolX
import Derived.BigQuiet
namespace Go.Proofs.Ytdgcmihnbkamgaa
open Go.RowKit
set_option linter.unusedVariables false
set_option linter.unusedSimpArgs false
set_option maxRecDepth 100000 in
set_option maxHeartbeats 4000000 in
theorem apartInts_calls (w : World) {ex : Nat → Prop} {v : Value} {N : Nat} {L : List (Value × List Int)} {rest : List Item} (hN : L.length = N) (h : Fam w ex (rowItem 49 1 v N (L.map (·.1)) :: (rowsI L ++ rest))) (hn : N ≤ 5497558138880) (hb : ∀ r, r ∈ L → r.2.length ≤ 4398046511104) :
    Calls Try.prog 25 #[v] w fun e w' => e = .returned (.bool true) ∧ Fam w' ex rest ∧ Turn (fun b => ¬ ex b) w w' := by
  obtain ⟨ok0, hR0, _⟩ := h.head
  obtain ⟨A, c, rfl, _⟩ := RowO.shape hR0
  obtain ⟨vs, hvs⟩ : ∃ vs, L.map (·.1) = vs := ⟨_, rfl⟩
  rw [hvs] at h
  have HF0 : Hid (Fam w ex (rowItem 49 1 (.slice none 0 0) 0 [] :: rowItem 49 1 (.slice A N c) N vs :: (rowsT [] ++ (rowsI L ++ rest)))) := Lib.hid (h.add (Below.refl _ _) (rowItem 49 1 (.slice none 0 0) 0 []) ⟨World.ownsRow_nil _ _ _ _, fun k hk => by cases hk⟩)
  have HP0 : Hid (PartI N vs 4398046511104 0 [] L) := Lib.hid ⟨rfl, by simp [hN], by simpa using hvs, (fun r h => by cases h), by simpa using hb⟩
  clear hR0 h hb hvs hN
  go_enter Try.func25, Try.ntmps25
  go_wp2
  go_loopg [3, 4, 6] N (fun k v3 v4 v6 wr => ∃ (i : Nat) (m : Int) (D : List Ti) (E : List (Value × List Int)), i ≤ N ∧ v3 = .int .i64 m ∧ v6 = .int .i64 i ∧ k = N - i ∧ Hid (PartI N vs 4398046511104 i D E) ∧ Hid (Fam wr ex (rowItem 49 1 v4 i (D.map (·.wv)) :: rowItem 49 1 (.slice A N c) N vs :: (rowsT D ++ (rowsI E ++ rest)))) ∧ Hid (Turn (fun b => ¬ ex b) w wr))
  case atStart => exact ⟨0, 0, [], L, Nat.zero_le _, rfl, rfl, rfl, HP0, HF0, Lib.hid (Turn.refl _ _)⟩
  case round =>
    obtain ⟨i, m, D, E, hi, rfl, rfl, hq, HP, HF, HT⟩ := hrel
    have HQ := Lib.hid hq
    clear hq HF0 HP0
    obtain ⟨oks, hsh, _⟩ := HF.out.head
    obtain ⟨A4, c4, rfl, _⟩ := RowO.shape hsh
    clear hsh
    by_cases hil : i < N
    · obtain ⟨⟨r1, rb⟩, F, rfl, hvr, hrl⟩ := HP.out.split hil
      have HV := Lib.hid hvr
      have HRL := Lib.hid (show rb.length ≤ 4398046511104 from hrl)
      have HF1 : Hid (Fam wr ex (rowI r1 rb :: rowItem 49 1 (.slice A4 i c4) i (D.map (·.wv)) :: rowItem 49 1 (.slice A N c) N vs :: (rowsT D ++ (rowsI F ++ rest)))) := Lib.hid (Fam.pull (rowItem 49 1 (.slice A4 i c4) i (D.map (·.wv)) :: rowItem 49 1 (.slice A N c) N vs :: rowsT D) (rowsI F ++ rest) HF.out)
      obtain ⟨ok1, hrow, _⟩ := HF1.out.head
      obtain ⟨Ar, cr, er, _⟩ := RowO.shape hrow
      obtain ⟨oko, hout, _⟩ := HF1.out.tail.tail.head
      obtain ⟨g0, c0, e0, _, _⟩ := RowO.cell hout hvr
      dsimp only at er hrl
      subst er
      cases e0
      have HF2 := Lib.hid (HF1.out.add (Below.refl _ _) (rowI (.slice none 0 0) []) ⟨World.ownsRow_nil _ _ _ _, fun k hk => by cases hk⟩)
      clear hrow hout hvr hrl HF HF1
      have hlt : (i : Int) < (N : Int) := by omega
      have hi0 : (0 : Int) ≤ (i : Int) := by omega
      have hdec : decide ((i : Int) < (N : Int)) = true := decide_eq_true hlt
      go_wp2
      go_loopg [3, 7, 8] rb.length (fun k v3 v7 v8 wq => ∃ (q : Nat) (m : Int) (cs : List Int), q ≤ rb.length ∧ cs.length = rb.length ∧ v3 = .int .i64 m ∧ v8 = .int .i64 q ∧ k = rb.length - q ∧ Hid (Fam wq ex (rowI v7 (cs.take q) :: rowItem 3 1 (.slice Ar rb.length cr) rb.length (cs.map (Value.int .i64)) :: rowItem 49 1 (.slice A4 i c4) i (D.map (·.wv)) :: rowItem 49 1 (.slice (some ⟨g0, 0, none⟩) N c) N vs :: (rowsT D ++ (rowsI F ++ rest)))) ∧ Hid (Turn (fun b => ¬ ex b) w wq))
      case atStart => exact ⟨0, m, rb, Nat.zero_le _, rfl, rfl, rfl, rfl, HF2, HT⟩
      case round =>
        obtain ⟨q, m2, cs, hql, hcs, rfl, rfl, hq2, HG, HT2⟩ := hrel
        have HQ2 := Lib.hid hq2
        have HCS := Lib.hid hcs
        clear hq2 hcs HF2 HT
        obtain ⟨_, hsh, _⟩ := HG.out.head
        obtain ⟨A7, c7, e7, _⟩ := RowO.shape hsh
        rw [List.length_take, HCS.out, show min q rb.length = q by omega] at e7
        subst e7
        clear hsh
        obtain ⟨oko, hout, _⟩ := HG.out.tail.tail.tail.head
        obtain ⟨g', c', e', y0, _⟩ := RowO.cell hout HV.out
        cases e'
        clear hout
        by_cases hqr : q < rb.length
        · obtain ⟨m3, hm3⟩ : ∃ m3, wrap64 (m2 - 1) = m3 := ⟨_, rfl⟩
          obtain ⟨ok, hP, _, hs⟩ := HG.out.turn
          obtain ⟨v', w1, hr, ho, ht', _⟩ := row_more _ 49 49 3 (show RowO _ _ 3 1 (.slice A7 q c7) (cs.take q).length _ from hP) (.int .i64 m3) Try.underlying49 info3 (by rfl) (by rfl) (.inl (by rw [List.length_take]; have := HRL.out; omega)) (by rw [List.length_take]; have := HRL.out; omega)
          obtain ⟨hF2, hT2⟩ := hs w1 (rowItem 3 1 v' ((cs.take q).length + 1) ((cs.take q).map (Value.int .i64) ++ [Value.int .i64 m3])) ho ht'
          have HR2 := Lib.hid hr
          clear hP hs hr ho ht'
          obtain ⟨ok, hP, _, hs⟩ := hF2.swap.turn
          obtain ⟨g, c2, e2, y1, y2, _⟩ := RowO.cell hP (j := q) (u := .int .i64 (cs[q]'(by have := HCS.out; omega))) (by rw [List.getElem?_map, List.getElem?_eq_getElem]; rfl)
          cases e2
          have hput := RowO.put hP q (.int .i64 m3)
          have e3 : (cs.map (Value.int .i64)).set q (.int .i64 m3) = (cs.set q m3).map (Value.int .i64) := by rw [List.map_set]
          rw [e3] at hput
          obtain ⟨hF3, hT3⟩ := hs _ (rowItem 3 1 (.slice (some ⟨g, 0, none⟩) rb.length cr) rb.length ((cs.set q m3).map (Value.int .i64))) (hput.1.mono fun b hb => .inl hb) hput.2
          have HG2 : Hid (Fam (w1.setCell ⟨g, q, none⟩ (.int .i64 m3)) ex (rowI v' ((cs.set q m3).take (q + 1)) :: _)) := Lib.hid (by
            have h := hF3.swap
            have e4 : (cs.set q m3).take (q + 1) = cs.take q ++ [m3] := by
              rw [List.take_add_one, List.take_set_of_le (Nat.le_refl _), List.getElem?_set_self (by have := HCS.out; omega)]
              rfl
            rw [e4]
            unfold rowI
            rw [List.length_append, List.map_append]
            exact h)
          have HT3 := Lib.hid (trans_ex (trans_ex HT2.out hT2) hT3)
          have f2 := y2 q
          obtain ⟨oko, hout, _⟩ := hF2.tail.tail.tail.head
          obtain ⟨g', c', e', y3, _⟩ := RowO.cell hout HV.out
          cases e'
          have hq1 : (q : Int) < (rb.length : Int) := by omega
          have hq0 : (0 : Int) ≤ (q : Int) := by omega
          have hqd : decide ((q : Int) < (rb.length : Int)) = true := decide_eq_true hq1
          have hrl := HRL.out
          clear hP hs hput e3 hF2 hT2 hF3 hT3 y2 HG HT2 hout
          go_wp2_with (at_builtin; (refine wpList_append_run rfl _ _ _ rfl rfl rfl HR2.out ?_))
          go_roundg (rb.length - (q + 1))
          case measure => have := HQ2.out; omega
          case rel => exact ⟨q + 1, m3, cs.set q m3, by omega, by rw [List.length_set]; exact HCS.out, rfl, by go_num, rfl, HG2, HT3⟩
        · obtain rfl : q = rb.length := by omega
          have hqd : decide ((rb.length : Int) < (rb.length : Int)) = false := decide_eq_false (by omega)
          have e5 : cs.take rb.length = cs := by rw [← HCS.out, List.take_length]
          have HG1 := HG.out
          rw [e5] at HG1
          obtain ⟨ok, hP, _, hs⟩ := HG1.rot.turn
          obtain ⟨v', w1, hr, ho, ht', _⟩ := row_more _ 52 52 49 hP (.slice A7 rb.length c7) Try.underlying52 info49 (by rfl) (by rfl) (.inl (by omega)) (by omega)
          obtain ⟨hF2, hT2⟩ := hs w1 (rowItem 49 1 v' (i + 1) (D.map (·.wv) ++ [Value.slice A7 rb.length c7])) ho ht'
          have HR2 := Lib.hid hr
          have HT3 := Lib.hid (trans_ex HT2.out hT2)
          have HP2 := Lib.hid (HP.out.step HCS.out (.slice A7 rb.length c7))
          have HG2 : Hid (Fam w1 ex (rowItem 49 1 v' (i + 1) (D.map (·.wv) ++ [Value.slice A7 rb.length c7]) :: rowItem 49 1 (.slice (some ⟨g0, 0, none⟩) N c) N vs :: (rowsT D ++ (rowI (.slice Ar rb.length cr) cs :: rowI (.slice A7 rb.length c7) cs :: (rowsI F ++ rest))))) := Lib.hid (by
            refine fam_in (i := rowI (.slice Ar rb.length cr) cs) (j := rowI (.slice A7 rb.length c7) cs) (rowItem 49 1 v' (i + 1) (D.map (·.wv) ++ [Value.slice A7 rb.length c7]) :: rowItem 49 1 (.slice (some ⟨g0, 0, none⟩) N c) N vs :: rowsT D) (rowsI F ++ rest) ?_
            have h2 := hF2.rot
            unfold rowI at h2 ⊢
            rw [HCS.out] at h2 ⊢
            exact h2.perm (.cons _ (.swap _ _ _)))
          clear hP hs hr ho ht' hF2 hT2 HG HG1 HT2 HP
          go_wp2_with (at_builtin; (refine wpList_append_run rfl _ _ _ rfl rfl rfl HR2.out ?_))
          go_roundg (N - (i + 1))
          case measure => have := HQ.out; omega
          case rel =>
            refine ⟨i + 1, m2, D ++ [⟨.slice Ar rb.length cr, cs, .slice A7 rb.length c7⟩], F, by omega, rfl, by go_num, rfl, HP2, ?_, HT3⟩
            refine Lib.hid ?_
            rw [rowsT_append, List.map_append, List.append_assoc]
            exact HG2.out
    · obtain rfl : i = N := by omega
      have hdec : decide ((i : Int) < (i : Int)) = false := decide_eq_false (by omega)
      obtain ⟨rfl, hD1, hD2, hD3⟩ := HP.out.done
      have HG0 : Hid (GrewI i vs 4398046511104 0 [] D) := Lib.hid ⟨rfl, by simpa using hD1, by simpa using hD2, (fun g h => by cases h), hD3⟩
      have HF0 : Hid (Fam wr ex (rowItem 49 1 (.slice none 0 0) 0 [] :: rowItem 49 1 (.slice A4 i c4) i (D.map (·.wv)) :: rowItem 49 1 (.slice A i c) i vs :: (rowsGi [] ++ (rowsT D ++ rest)))) := Lib.hid (HF.out.add (Below.refl _ _) (rowItem 49 1 (.slice none 0 0) 0 []) ⟨World.ownsRow_nil _ _ _ _, fun k hk => by cases hk⟩)
      clear hD1 hD2 hD3 HF HQ HP
      go_wp2
      go_loopg [3, 5, 9] i (fun k v3 v5 v9 wr => ∃ (j : Nat) (m : Int) (G : List Gi) (E : List Ti), j ≤ i ∧ v3 = .int .i64 m ∧ v9 = .int .i64 j ∧ k = i - j ∧ Hid (GrewI i vs 4398046511104 j G E) ∧ Hid (Fam wr ex (rowItem 49 1 v5 j (G.map (·.v2)) :: rowItem 49 1 (.slice A4 i c4) i (G.map (·.wv) ++ E.map (·.wv)) :: rowItem 49 1 (.slice A i c) i vs :: (rowsGi G ++ (rowsT E ++ rest)))) ∧ Hid (Turn (fun b => ¬ ex b) w wr))
      case atStart => exact ⟨0, m, [], D, Nat.zero_le _, rfl, rfl, rfl, HG0, HF0, HT⟩
      case round =>
        obtain ⟨j, m2, G, E, hj, rfl, rfl, hq, HP, HF, HT2⟩ := hrel
        have HQ := Lib.hid hq
        clear hq HF0 HG0 HT
        obtain ⟨oks, hsh, _⟩ := HF.out.head
        obtain ⟨A5, c5, rfl, _⟩ := RowO.shape hsh
        clear hsh
        by_cases hjl : j < i
        · obtain ⟨⟨r1, rb, wv⟩, F, rfl, hvr, hrl⟩ := HP.out.split hjl
          have HV := Lib.hid hvr
          have HRL := Lib.hid (show rb.length ≤ 4398046511104 from hrl)
          have HF1 := Lib.hid (fam_out (i := rowI r1 rb) (j := rowI wv rb) (rowItem 49 1 (.slice A5 j c5) j (G.map (·.v2)) :: rowItem 49 1 (.slice A4 i c4) i (G.map (·.wv) ++ wv :: F.map (·.wv)) :: rowItem 49 1 (.slice A i c) i vs :: rowsGi G) (rowsT F ++ rest) HF.out)
          obtain ⟨ok1, hrow, _⟩ := HF1.out.head
          obtain ⟨Ar, cr, er, _⟩ := RowO.shape hrow
          obtain ⟨oko, hout, _⟩ := HF1.out.tail.tail.tail.tail.head
          obtain ⟨g0, c0, e0, y0, _⟩ := RowO.cell hout hvr
          dsimp only at er hrl
          subst er
          cases e0
          obtain ⟨okg, hrow2, _, hsg⟩ := HF1.out.turn
          have HF2 : Hid (Fam wr ex (grownItemI (.slice Ar rb.length cr) rb (.slice Ar rb.length cr) rb :: rowI wv rb :: rowItem 49 1 (.slice A5 j c5) j (G.map (·.v2)) :: rowItem 49 1 (.slice A4 i c4) i (G.map (·.wv) ++ wv :: F.map (·.wv)) :: rowItem 49 1 (.slice (some ⟨g0, 0, none⟩) i c) i vs :: (rowsGi G ++ (rowsT F ++ rest)))) := Lib.hid (hsg wr _ (grownItemI.start ⟨hrow2.1, fun k hk => .inl (hrow2.2 k hk)⟩) (Turn.refl _ _)).1
          have HT3 := Lib.hid HT2.out
          have HGL := Lib.hid HP.out.1
          clear hrow hrow2 hsg hout hvr hrl HF HF1 HT2
          have hlt : (j : Int) < (i : Int) := by omega
          have hj0 : (0 : Int) ≤ (j : Int) := by omega
          have hdec : decide ((j : Int) < (i : Int)) = true := decide_eq_true hlt
          go_wp2
          go_loopg [3, 10, 11] 16 (fun k v3 v10 v11 wq => ∃ (t : Nat) (m : Int) (Y : List Int) (wv2 : Value), t ≤ 16 ∧ Y.length = rb.length + t ∧ v3 = .int .i64 m ∧ v11 = .int .i64 t ∧ k = 16 - t ∧ Hid (Fam wq ex (grownItemI (.slice Ar rb.length cr) rb v10 Y :: rowI wv2 Y :: rowItem 49 1 (.slice A5 j c5) j (G.map (·.v2)) :: rowItem 49 1 (.slice A4 i c4) i (G.map (·.wv) ++ wv2 :: F.map (·.wv)) :: rowItem 49 1 (.slice (some ⟨g0, 0, none⟩) i c) i vs :: (rowsGi G ++ (rowsT F ++ rest)))) ∧ Hid (Turn (fun b => ¬ ex b) w wq))
          case atStart => exact ⟨0, m2, rb, wv, Nat.zero_le _, rfl, rfl, rfl, rfl, HF2, HT3⟩
          case round =>
            obtain ⟨t, m4, Y, wv2, ht, hY, rfl, rfl, hq3, HH, HT4⟩ := hrel
            have HQ3 := Lib.hid hq3
            have HY := Lib.hid hY
            clear hq3 hY HF2 HT3 y0
            obtain ⟨_, hsh, _⟩ := HH.out.head
            obtain ⟨A10, c10, e10, _⟩ := RowO.shape hsh.2.2
            rw [HY.out] at e10
            subst e10
            clear hsh
            by_cases ht16 : t < 16
            · obtain ⟨m5, hm5⟩ : ∃ m5, wrap64 (m4 - 1) = m5 := ⟨_, rfl⟩
              obtain ⟨ok, hP, _, hs⟩ := HH.out.turn
              obtain ⟨v', w1, hr, ho, ht'⟩ := grownI_more _ 49 hP m5 (by have := HY.out; have := HRL.out; omega)
              obtain ⟨hF2, hT2⟩ := hs w1 _ ho ht'
              have HR2 := Lib.hid hr
              obtain ⟨_, hw, _⟩ := hF2.tail.tail.tail.head
              obtain ⟨g4, e4, f4, z4, _, _⟩ := RowO.cell hw (j := j) (u := wv2) (by rw [List.getElem?_append_right (by rw [List.length_map]; have := HGL.out; omega), List.length_map, HGL.out, Nat.sub_self]; rfl)
              cases f4
              clear hP hs hr ho ht' hw
              obtain ⟨ok, hP, _, hs⟩ := hF2.swap.turn
              obtain ⟨Aw, cw, ew, _⟩ := RowO.shape hP
              rw [HY.out] at ew
              subst ew
              obtain ⟨v2', w2, hr, ho, ht', _⟩ := row_more w1 49 49 3 hP (.int .i64 m5) Try.underlying49 info3 (by rfl) (by rfl) (.inl (by have := HY.out; have := HRL.out; omega)) (by have := HY.out; have := HRL.out; omega)
              obtain ⟨A2', c2', e2', _⟩ := RowO.shape ho
              subst e2'
              obtain ⟨hF3, hT3⟩ := hs w2 (rowI (Value.slice A2' (Y.length + 1) c2') (Y ++ [m5])) (by
                have h := ho
                show RowO _ _ 3 1 (Value.slice A2' (Y.length + 1) c2') (Y ++ [m5]).length ((Y ++ [m5]).map (Value.int .i64))
                rw [List.length_append, List.map_append]
                exact h) ht'
              have HR3 := Lib.hid hr
              clear hP hs hr ho ht'
              have hF4 := Fam.pull [rowI (Value.slice A2' (Y.length + 1) c2') (Y ++ [m5]), grownItemI (.slice Ar rb.length cr) rb v' (Y ++ [m5]), rowItem 49 1 (.slice A5 j c5) j (G.map (·.v2))] _ hF3
              obtain ⟨ok, hP, _, hs⟩ := hF4.turn
              obtain ⟨g4', e4', f4', z5, z6, _⟩ := RowO.cell hP (j := j) (u := .slice Aw (rb.length + t) cw) (by rw [List.getElem?_append_right (by rw [List.length_map]; have := HGL.out; omega), List.length_map, HGL.out, Nat.sub_self]; rfl)
              cases f4'
              have hput := RowO.put hP j (Value.slice A2' (Y.length + 1) c2')
              have e7 : (G.map (·.wv) ++ Value.slice Aw (rb.length + t) cw :: F.map (·.wv)).set j (Value.slice A2' (Y.length + 1) c2') = G.map (·.wv) ++ (Value.slice A2' (Y.length + 1) c2') :: F.map (·.wv) := by
                rw [List.set_append, List.length_map, HGL.out, if_neg (Nat.lt_irrefl j), Nat.sub_self]
                rfl
              rw [e7] at hput
              obtain ⟨hF5, hT5⟩ := hs _ (rowItem 49 1 (.slice (some ⟨g4, 0, none⟩) i c4) i (G.map (·.wv) ++ (Value.slice A2' (Y.length + 1) c2') :: F.map (·.wv))) (hput.1.mono fun b hb => .inl hb) hput.2
              have HH2 := Lib.hid (Fam.push [rowI (Value.slice A2' (Y.length + 1) c2') (Y ++ [m5]), grownItemI (.slice Ar rb.length cr) rb v' (Y ++ [m5]), rowItem 49 1 (.slice A5 j c5) j (G.map (·.v2))] _ hF5).swap
              have HT6 := Lib.hid (trans_ex (trans_ex (trans_ex HT4.out hT2) hT3) hT5)
              have f6 := z6 j
              have htd : decide ((t : Int) < 16) = true := decide_eq_true (by omega)
              have hrl := HRL.out
              clear hP hs hput hF2 hT2 hF3 hT3 hF4 hF5 hT5 z6 HH HT4 e7
              go_wp2_with (first | (at_builtin; (refine wpList_append_run rfl _ _ _ rfl rfl rfl HR3.out ?_)) | (at_builtin; (refine wpList_append_run rfl _ _ _ rfl rfl rfl HR2.out ?_)))
              go_roundg (16 - (t + 1))
              case measure => have := HQ3.out; omega
              case rel => exact ⟨t + 1, m5, Y ++ [m5], (Value.slice A2' (Y.length + 1) c2'), by omega, by rw [List.length_append, HY.out]; rfl, rfl, by go_num, rfl, HH2, HT6⟩
            · obtain rfl : t = 16 := by omega
              have htd : decide (((16 : Nat) : Int) < 16) = false := decide_eq_false (by omega)
              obtain ⟨ok, hP, _, hs⟩ := HH.out.rot.turn
              obtain ⟨v', w1, hr, ho, ht', _⟩ := row_more _ 52 52 49 hP (.slice A10 (rb.length + 16) c10) Try.underlying52 info49 (by rfl) (by rfl) (.inl (by omega)) (by omega)
              obtain ⟨hF2, hT2⟩ := hs w1 (rowItem 49 1 v' (j + 1) (G.map (·.v2) ++ [Value.slice A10 (rb.length + 16) c10])) ho ht'
              have HR2 := Lib.hid hr
              have HT5 := Lib.hid (trans_ex HT4.out hT2)
              have HP2 := Lib.hid (HP.out.step wv2 (.slice A10 (rb.length + 16) c10) HY.out)
              have HH2 := Lib.hid (fam_in (rowItem 49 1 v' (j + 1) (G.map (·.v2) ++ [Value.slice A10 (rb.length + 16) c10]) :: rowItem 49 1 (.slice A4 i c4) i (G.map (·.wv) ++ wv2 :: F.map (·.wv)) :: rowItem 49 1 (.slice (some ⟨g0, 0, none⟩) i c) i vs :: rowsGi G) (rowsT F ++ rest) (hF2.swap.perm (.cons _ (.swap _ _ _))))
              clear hP hs hr ho ht' hF2 hT2 HH HT4 HP
              go_wp2_with (at_builtin; (refine wpList_append_run rfl _ _ _ rfl rfl rfl HR2.out ?_))
              go_roundg (i - (j + 1))
              case measure => have := HQ.out; omega
              case rel =>
                refine ⟨j + 1, m4, G ++ [⟨.slice Ar rb.length cr, rb, wv2, .slice A10 (rb.length + 16) c10, Y⟩], F, by omega, rfl, by go_num, rfl, HP2, ?_, HT5⟩
                refine Lib.hid ?_
                rw [rowsGi_append, List.map_append, List.map_append, List.append_assoc, List.append_assoc]
                exact HH2.out
        · obtain rfl : j = i := by omega
          have hdec : decide ((j : Int) < (j : Int)) = false := decide_eq_false (by omega)
          obtain ⟨rfl, hG1, hG2, hG3⟩ := HP.out.done
          have HF3 := Lib.hid HF.out
          have HGL := Lib.hid (And.intro hG1 (And.intro hG2 hG3))
          have HT3 := Lib.hid HT2.out
          clear HF HT2 HP hG1 hG2 hG3 HQ
          go_wp2
          go_loopg [12] j (fun k v12 wr => ∃ q : Nat, q ≤ j ∧ v12 = .int .i64 q ∧ k = j - q ∧ Hid (Fam wr ex (rowItem 49 1 (.slice A5 j c5) j (G.map (·.v2)) :: rowItem 49 1 (.slice A4 j c4) j (G.map (·.wv) ++ []) :: rowItem 49 1 (.slice A j c) j vs :: (rowsGi G ++ (rowsT [] ++ rest)))) ∧ Hid (Turn (fun b => ¬ ex b) w wr))
          case atStart => exact ⟨0, Nat.zero_le _, rfl, rfl, HF3, HT3⟩
          case round =>
            obtain ⟨q, hq, rfl, hqq, HF, HT4⟩ := hrel
            have HQ := Lib.hid hqq
            clear hqq HF3 HT3
            by_cases hql : q < j
            · obtain ⟨gr, hgr⟩ : ∃ gr, G[q]? = some gr := ⟨G[q]'(by have := HGL.out.1; omega), List.getElem?_eq_getElem _⟩
              obtain ⟨hL, hV, hX⟩ := HGL.out
              obtain ⟨_, hr1, _⟩ := HF.out.head
              obtain ⟨g5, e5, f5, z5, _⟩ := RowO.cell hr1 (j := q) (u := gr.v2) (by rw [List.getElem?_map, hgr]; rfl)
              cases f5
              obtain ⟨_, hr1, _⟩ := HF.out.tail.head
              obtain ⟨g4, e4, f4, z4, _⟩ := RowO.cell hr1 (j := q) (u := gr.wv) (by rw [List.append_nil, List.getElem?_map, hgr]; rfl)
              cases f4
              obtain ⟨_, hr1, _⟩ := HF.out.tail.tail.head
              obtain ⟨g0, e0, f0, z0, _⟩ := RowO.cell hr1 (j := q) (u := gr.v) (by rw [← hV, List.getElem?_map, hgr]; rfl)
              cases f0
              have hin : ∀ x, x ∈ [grownItemI gr.v gr.X gr.v2 gr.Y, rowI gr.wv gr.Y] → x ∈ rowsGi G := fun x hx => List.mem_flatMap.2 ⟨gr, List.mem_of_getElem? hgr, hx⟩
              obtain ⟨_, hp, hrc, hro⟩ := (HF.out.tail.tail.tail).mem (i := grownItemI gr.v gr.X gr.v2 gr.Y) (List.mem_append_left _ (hin _ (by simp)))
              obtain ⟨_, hrw⟩ := (HF.out.tail.tail.tail).mem (i := rowI gr.wv gr.Y) (List.mem_append_left _ (hin _ (by simp)))
              obtain ⟨hx1, hx2⟩ := hX gr (List.mem_of_getElem? hgr)
              obtain ⟨gv, gX, gwv, gv2, gY⟩ := gr
              dsimp only at *
              obtain ⟨A2, c2, ev2, _⟩ := RowO.shape hro
              obtain ⟨A1, c1, ev, hcv⟩ := hrc.1
              obtain ⟨A3, c3, ew, _, hpw⟩ := RowO.shape hrw
              obtain ⟨g3, rfl⟩ := hpw (by omega)
              have hcw := RowO.room (ew ▸ hrw : RowO _ _ 3 1 (.slice (some ⟨g3, 0, none⟩) gY.length c3) gY.length _)
              have R1 := Lib.hid (RowO.rowI hro rfl)
              have R2 := Lib.hid (RowO.rowI hrw rfl)
              have R3 := Lib.hid hrc
              rw [ev2] at R1 z5
              rw [ew] at R2 z4
              rw [ev] at R3 z0
              have R4 := Lib.hid (RowI.take R2.out hp)
              have hs1 : (0 : Int) ≤ (gX.length : Int) := by omega
              have hs2 : (gX.length : Int) ≤ (gY.length : Int) := by omega
              have hs3 : (gX.length : Int) ≤ (c3 : Int) := by omega
              have hy1 : gY.length < 17592186044416 := by omega
              clear hr1 hp hrc hro hL hV hX hgr hrw hin hpw ev ev2 ew hx2
              have hlt : (q : Int) < (j : Int) := by omega
              have hq0 : (0 : Int) ≤ (q : Int) := by omega
              have hdec2 : decide ((q : Int) < (j : Int)) = true := decide_eq_true hlt
              go_wp2
              go_region_held3 (fun w' => w'.cell? ⟨g0, q, none⟩ = some (.slice A1 gX.length c1) ∧ w'.cell? ⟨g4, q, none⟩ = some (.slice (some ⟨g3, 0, none⟩) gY.length c3) ∧ w'.cell? ⟨g5, q, none⟩ = some (.slice A2 gY.length c2))
                (first | with_reducible exact HC6.out | with_reducible exact HC5.out | (exact ⟨z0, z4, z5⟩))
                (first
                  | (go_at_call 29; (refine (sameInts_reads _ gX (R3.out.below HB5.out) (R4.out.below HB5.out) (by omega)).mono ?_); rintro e w6 ⟨rfl, hb6⟩; have HB6 := Lib.hid (HB5.out.trans (hb6.mono HB5.out.size)); have HC6 := Lib.hid (And.intro (cell_keeps HB6.out _ _ z0) (And.intro (cell_keeps HB6.out _ _ z4) (cell_keeps HB6.out _ _ z5))); clear hb6)
                  | (go_at_call 29; (refine (sameInts_reads _ gY (R1.out.below (Below.drew (Below.refl _ _))) (R2.out.below (Below.drew (Below.refl _ _))) (by omega)).mono ?_); rintro e w5 ⟨rfl, hb5⟩; have HB5 := Lib.hid ((Below.drew (Below.refl wr.heap.size wr)).trans hb5); have HC5 := Lib.hid (And.intro (cell_keeps HB5.out _ _ z0) (And.intro (cell_keeps HB5.out _ _ z4) (cell_keeps HB5.out _ _ z5))); clear hb5))
              go_wp2
              go_roundg (j - (q + 1))
              case measure => have := HQ.out; omega
              case rel => exact ⟨q + 1, by omega, by go_num, rfl, Lib.hid (HF.out.below HB6.out), Lib.hid (trans_ex HT4.out (Turn.of_below HB6.out))⟩
            · have hdec2 : decide ((q : Int) < (j : Int)) = false := decide_eq_false (by omega)
              go_wp2
              go_ret
              exact ⟨rfl, HF.out.tail.tail.tail.drop _, HT4.out⟩
end Go.Proofs.Ytdgcmihnbkamgaa
