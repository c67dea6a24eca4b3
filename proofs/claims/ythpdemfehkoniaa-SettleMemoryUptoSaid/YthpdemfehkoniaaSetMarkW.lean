/- markInts: the walk, part one. Condition: 1 to 32 rows of at most 16 numbers. -/
import Derived.Test.YthpdemfehkoniaaSetMark
import Derived.IntWalk
namespace Go.Proofs.Ythpdemfehkoniaa.PSet
open Go.RowKit Go.Proofs.YthpdemfehkoniaaW.PrintWords Go.Proofs.YthpdemfehkoniaaW.PrintLast Go.Proofs.YthpdemfehkoniaaW.PrintMore Go.Proofs.YthpdemfehkoniaaW.AO
set_option linter.unusedVariables false
set_option linter.unusedSimpArgs false
set_option maxHeartbeats 16000000 in
set_option maxRecDepth 100000 in
theorem markInts_calls (g N c : Nat) (hs : List Value) (xs : List (List Int)) (L : List Ob) (w : World) (base : Nat) (h1N : 1 ≤ N) (hN : N ≤ 32) (hl : hs.length = N) (hx : xs.length = N) (hr : ∀ q, (xs.getD q []).length ≤ 16)
    (h : AO w base (heads 45 (.slice (some ⟨g, 0, none⟩) N c) hs :: (rowsOf (Kd.int .i64) 3 hs xs ++ L))) (hb : base ≤ w.heap.size) :
    Calls Try.prog 33 #[.slice (some ⟨g, 0, none⟩) N c] w fun e w' => e = .returned (.bool true) ∧ AO w' base L ∧ Below base w w' := by
  have HO0 := Aside0.mk h
  have HB0 := Aside0.mk (Below.refl base w)
  have HBS := Aside0.mk hb
  have HHL := Aside0.mk hl
  have HXL := Aside0.mk hx
  have HRL := Aside0.mk hr
  clear h hb hl hx hr
  go_enter Try.func33, Try.ntmps33
  go_wp2_with (fail)
  have HM0 := Aside0.mk (show MS (w.alloc (.cells #[] 3)) base g N c (.slice (some ⟨w.heap.size, 0, none⟩) 0 0) ((lens xs).take 0) hs xs L from ⟨AO.alloc_box (Kd.int .i64) ([] : List Int) #[] 0 3 rfl (by decide) (Reps.none _ _) HO0.out HBS.out, HHL.out, HXL.out⟩)
  have HB1 := Aside0.mk (HB0.out.alloc HBS.out (.cells #[] 3))
  clear HO0 HB0
  go_loopg [3, 15] N (fun k v3 v15 wr => ∃ q : Nat, q ≤ N ∧ v15 = .int .i64 q ∧ Aside0 (k + q = N) ∧ ∃ (hs1 : List Value) (ys : List (List Int)), Aside0 (Marked xs ys q 0) ∧ Aside0 (MS wr base g N c v3 ((lens xs).take q) hs1 ys L) ∧ Aside0 (Below base w wr))
  case atStart => exact ⟨0, Nat.zero_le _, rfl, ⟨by omega⟩, hs, xs, ⟨Marked.start xs⟩, HM0, HB1⟩
  case round =>
    obtain ⟨q, hq, rfl, HK, hs1, ys, HP, HM1, HB1⟩ := hrel
    clear HM0
    by_cases hlt : q < N
    · obtain ⟨A1, c1, hc1, _, _, _, _⟩ := HM1.out.row q hlt
      obtain ⟨n, hn⟩ : ∃ n, (ys.getD q []).length = n := ⟨_, rfl⟩
      rw [hn] at hc1
      have HN := Aside0.mk hn
      have HNX := Aside0.mk (show (xs.getD q []).length = n by rw [← hn]; exact (HP.out.2.1 q).symm)
      have hn16 : n ≤ 16 := by rw [← HNX.out]; exact HRL.out q
      clear hn
      have HTL := Aside0.mk (show ((lens xs).take q).length ≤ 32 by rw [List.length_take]; omega)
      go_wp2_with (first | ((with_reducible refine gate_builtin (b := .append) (xs := #[.tmp 18, .tmp 24]) rfl ?_); at_builtin; refine AO.append (w0 := w) (base := base) (L := (⟨Kd.int .i64, 3, u3, (lens xs).take q⟩ :: heads 45 (.slice (some ⟨g, 0, none⟩) N c) hs1 :: (rowsOf (Kd.int .i64) 3 hs1 ys ++ L))) 0 (Kd.int .i64) ((lens xs).take q) (n : Int) [.int .i64 (n : Int)] rfl (.tmp 18) (.tmp 24) 45 3 _ 8 u3 rfl Try.underlying45 info3 rfl ?hs77 ?hb77 rfl ?hx77 ?hp77 ?h77 rfl ?HB77 ?hbase77 ?hl77 ?_; (case hs77 => decide); (case hb77 => decide); (case hx77 => first | (go_simp; done) | (go_simp; rfl)); (case hp77 => exact rfl); (case h77 => exact HM1.out.1); (case HB77 => exact HB1.out); (case hbase77 => exact Nat.le_trans HBS.out HB1.out.size); (case hl77 => have := HTL.out; omega); intro v25 w25 ho hb hs; have HM25 := Aside0.mk (show MS w25 base g N c v25 ((lens xs).take q ++ [(n : Int)]) hs1 ys L from ⟨ho, HM1.out.2⟩); have HB25 := Aside0.mk hb; clear ho hb hs HB1; obtain ⟨A25, c25, hc25, _, _, _, _⟩ := HM25.out.row q hlt; rw [HN.out] at hc25))
      clear hc1 hc25 HM1
      go_loopg [31] n (fun k v31 wr => ∃ j : Nat, j ≤ n ∧ v31 = .int .i64 j ∧ Aside0 (k + j = n) ∧ ∃ (hs2 : List Value) (zs : List (List Int)), Aside0 (Marked xs zs q j) ∧ Aside0 (MS wr base g N c v25 ((lens xs).take q ++ [(n : Int)]) hs2 zs L) ∧ Aside0 (Below base w wr))
      case atStart => exact ⟨0, Nat.zero_le _, rfl, ⟨by omega⟩, hs1, ys, HP, HM25, HB25⟩
      case round =>
        obtain ⟨j, hj, rfl, HK2, hs2, zs, HP2, HM2, HB2⟩ := hrel
        clear HM25 HB25
        have HNZ := Aside0.mk (show (zs.getD q []).length = n by rw [HP2.out.2.1 q]; exact HNX.out)
        by_cases hjl : j < n
        · obtain ⟨g2, c2, hx0, hx1, hfz, HM3, HB3⟩ := HM2.out.store HB2.out q hlt j (by rw [HNZ.out]; exact hjl) (1000 * (q : Int) + j)
          rw [HNZ.out] at hx0
          have HM3' := Aside0.mk HM3
          have HB3' := Aside0.mk HB3
          clear HM3 HB3
          have hw1 : wrap64 (1000 * (q : Int)) = 1000 * (q : Int) := by unfold wrap64; omega
          have hw2 : wrap64 (1000 * (q : Int) + (j : Int)) = 1000 * (q : Int) + (j : Int) := by unfold wrap64; omega
          go_wp2_with (fail)
          go_roundg (n - (j + 1))
          case measure => have := HK2.out; omega
          case rel => exact ⟨j + 1, by omega, by go_num, ⟨by omega⟩, hs2, _, ⟨HP2.out.put (by rw [HXL.out]; exact hlt) (by rw [HNX.out]; exact hjl)⟩, HM3', HB3'⟩
        · have hjn : j = n := by omega
          have hjf : ((j : Int) < (n : Int)) = False := eq_false (by omega)
          have HP3 := Aside0.mk (show Marked xs zs (q + 1) 0 by have h := HP2.out; rw [hjn, ← HNX.out] at h; exact h.next)
          have HM3 := Aside0.mk (show MS wr base g N c v25 ((lens xs).take (q + 1)) hs2 zs L by have h := HM2.out; rw [← HNX.out, lens_snoc xs q (by rw [HXL.out]; exact hlt)] at h; exact h)
          clear hjn hjl
          go_wp2_with (fail)
          go_roundg (N - (q + 1))
          case measure => have := HK.out; omega
          case rel => exact ⟨q + 1, by omega, by go_num, ⟨by omega⟩, hs2, zs, HP3, HM3, HB2⟩
    · have HG0 := Aside0.mk (show Grew xs ys 0 0 from Grew.start (by rw [HXL.out]; have h := HP.out; rwa [show q = N by omega] at h))
      have HM9 := Aside0.mk (show MS wr base g N c u3 (lens xs) hs1 ys L by have h := HM1.out; rw [List.take_of_length_le (by unfold lens; rw [List.length_map, HXL.out]; omega)] at h; exact h)
      have HB9 := HB1
      clear HM1 HB1 HP HK
      obtain ⟨v3, hv3⟩ : ∃ v, v = u3 := ⟨_, rfl⟩
      rw [← hv3] at HM9
      go_wp2_with (fail)
      subst hv3
      go_loopg [48] N (fun k v48 wr => ∃ q : Nat, q ≤ N ∧ v48 = .int .i64 q ∧ Aside0 (k + q = N) ∧ ∃ (hs2 : List Value) (zs : List (List Int)), Aside0 (Grew xs zs q 0) ∧ Aside0 (MS wr base g N c v3 (lens xs) hs2 zs L) ∧ Aside0 (Below base w wr))
      case atStart => exact ⟨0, Nat.zero_le _, rfl, ⟨by omega⟩, hs1, ys, HG0, HM9, HB9⟩
      case round =>
        obtain ⟨q, hq, rfl, HK, hs2, zs, HP2, HM2, HB2⟩ := hrel
        clear HM9 HB9
        by_cases hlt : q < N
        · go_wp2_with (fail)
          go_loopg [7] 16 (fun k v7 wr => ∃ m : Nat, m ≤ 16 ∧ v7 = .int .i64 m ∧ Aside0 (k + m = 16) ∧ ∃ (hs3 : List Value) (us : List (List Int)), Aside0 (Grew xs us q (m)) ∧ Aside0 (MS wr base g N c v3 (lens xs) hs3 us L) ∧ Aside0 (Below base w wr))
          case atStart => exact ⟨0, Nat.zero_le _, rfl, ⟨by omega⟩, hs2, zs, HP2, HM2, HB2⟩
          case round =>
            obtain ⟨m, hm, rfl, HK3, hs3, us, HP3, HM3, HB3⟩ := hrel
            by_cases hml : m < 16
            · obtain ⟨A5, c5, hx5, _, _, _, hi5⟩ := HM3.out.row q hlt
              obtain ⟨n5, hn5⟩ : ∃ n, (us.getD q []).length = n := ⟨_, rfl⟩
              rw [hn5] at hx5 hi5
              have HI5 := Aside0.mk hi5
              have HN5 := Aside0.mk (show (us.getD q []).length = n5 ∧ n5 ≤ 112 by
                refine ⟨hn5, ?_⟩
                have h := (HP3.out.2 q (by rw [HXL.out]; exact hlt)).1
                have h2 := HRL.out q
                rw [if_neg (by omega), if_pos rfl] at h
                omega)
              clear hn5 hi5
              have hw1 : wrap64 (1000 * (q : Int)) = 1000 * (q : Int) := by unfold wrap64; omega
              have hw2 : wrap64 (-1 - 1000 * (q : Int)) = -1 - 1000 * (q : Int) := by unfold wrap64; omega
              have hw3 : wrap64 (-1 - 1000 * (q : Int) - (m : Int)) = -1 - 1000 * (q : Int) - (m : Int) := by unfold wrap64; omega
              go_wp2_with (first | ((with_reducible refine gate_builtin (b := .append) (xs := #[.tmp 60, .tmp 66]) rfl ?_); at_builtin; refine AO.append (w0 := w) (base := base) (L := (⟨Kd.int .i64, 3, v3, lens xs⟩ :: heads 45 (.slice (some ⟨g, 0, none⟩) N c) hs3 :: (rowsOf (Kd.int .i64) 3 hs3 us ++ L))) (q + 2) (Kd.int .i64) (us.getD q []) (-1 - 1000 * (q : Int) - (m : Int)) [.int .i64 (-1 - 1000 * (q : Int) - (m : Int))] rfl (.tmp 60) (.tmp 66) 45 3 _ 8 (.slice A5 n5 c5) rfl Try.underlying45 info3 rfl ?hs78 ?hb78 rfl ?hx78 ?hp78 ?h78 ?hi78 ?HB78 ?hbase78 ?hl78 ?_; (case hs78 => decide); (case hb78 => decide); (case hx78 => first | (go_simp; done) | (go_simp; rfl)); (case hp78 => exact rfl); (case h78 => exact HM3.out.1); (case hi78 => exact HI5.out); (case HB78 => exact HB3.out); (case hbase78 => exact Nat.le_trans HBS.out HB3.out.size); (case hl78 => have := HN5.out; omega); intro v6 w6 ho hb hs; obtain ⟨r6, hr6⟩ : ∃ r, us.getD q [] ++ [-1 - 1000 * (q : Int) - (m : Int)] = r := ⟨_, rfl⟩; rw [hr6] at ho; have HR6 := Aside0.mk hr6; clear hr6; obtain ⟨A6, c6, e6, hl6, hc6⟩ := ho.reads (i := q + 2) (by rw [List.getElem?_set_self (List.getElem?_eq_some_iff.1 HI5.out).1]); cases e6; obtain ⟨HM6, HB6, hx6, hf6⟩ := MS.store_head ho HM3.out.2.1 HM3.out.2.2 hlt rfl hb; have HM7 := Aside0.mk HM6; have HB7 := Aside0.mk HB6; have HH6 := Aside0.mk hx6; clear HM6 HB6 ho hb hs hl6 hc6 hx6; have hx6 := HH6.out))
              go_roundg (16 - (m + 1))
              case measure => have := HK3.out; omega
              case rel => exact ⟨m + 1, by omega, by go_num, ⟨by omega⟩, _, _, ⟨by have h := HP3.out.snoc (by rw [HXL.out]; exact hlt) (-1 - 1000 * (q : Int) - (m : Int)) (by omega); rwa [HR6.out] at h⟩, HM7, HB7⟩
            · have hm16 : m = 16 := by omega
              subst hm16
              clear HM2 HB2
              go_wp2_with (fail)
              go_loopg [8] 80 (fun k v8 wr => ∃ m : Nat, m ≤ 80 ∧ v8 = .int .i64 m ∧ Aside0 (k + m = 80) ∧ ∃ (hs4 : List Value) (us4 : List (List Int)), Aside0 (Grew xs us4 q (16 + m)) ∧ Aside0 (MS wr base g N c v3 (lens xs) hs4 us4 L) ∧ Aside0 (Below base w wr))
              case atStart => exact ⟨0, Nat.zero_le _, rfl, ⟨by omega⟩, hs3, us, HP3, HM3, HB3⟩
              case round =>
                obtain ⟨m, hm, rfl, HK4, hs4, us4, HP4, HM4, HB4⟩ := hrel
                by_cases hml : m < 80
                · obtain ⟨A5, c5, hx5, _, _, _, hi5⟩ := HM4.out.row q hlt
                  obtain ⟨n5, hn5⟩ : ∃ n, (us4.getD q []).length = n := ⟨_, rfl⟩
                  rw [hn5] at hx5 hi5
                  have HI5 := Aside0.mk hi5
                  have HN5 := Aside0.mk (show (us4.getD q []).length = n5 ∧ n5 ≤ 112 by
                    refine ⟨hn5, ?_⟩
                    have h := (HP4.out.2 q (by rw [HXL.out]; exact hlt)).1
                    have h2 := HRL.out q
                    rw [if_neg (by omega), if_pos rfl] at h
                    omega)
                  clear hn5 hi5
                  have hw1 : wrap64 (-500000 - (q : Int)) = -500000 - (q : Int) := by unfold wrap64; omega
                  go_wp2_with (first | ((with_reducible refine gate_builtin (b := .append) (xs := #[.tmp 78, .tmp 81]) rfl ?_); at_builtin; refine AO.append (w0 := w) (base := base) (L := (⟨Kd.int .i64, 3, v3, lens xs⟩ :: heads 45 (.slice (some ⟨g, 0, none⟩) N c) hs4 :: (rowsOf (Kd.int .i64) 3 hs4 us4 ++ L))) (q + 2) (Kd.int .i64) (us4.getD q []) (-500000 - (q : Int)) [.int .i64 (-500000 - (q : Int))] rfl (.tmp 78) (.tmp 81) 45 3 _ 8 (.slice A5 n5 c5) rfl Try.underlying45 info3 rfl ?hs78 ?hb78 rfl ?hx78 ?hp78 ?h78 ?hi78 ?HB78 ?hbase78 ?hl78 ?_; (case hs78 => decide); (case hb78 => decide); (case hx78 => first | (go_simp; done) | (go_simp; rfl)); (case hp78 => exact rfl); (case h78 => exact HM4.out.1); (case hi78 => exact HI5.out); (case HB78 => exact HB4.out); (case hbase78 => exact Nat.le_trans HBS.out HB4.out.size); (case hl78 => have := HN5.out; omega); intro v6 w6 ho hb hs; obtain ⟨r6, hr6⟩ : ∃ r, us4.getD q [] ++ [-500000 - (q : Int)] = r := ⟨_, rfl⟩; rw [hr6] at ho; have HR6 := Aside0.mk hr6; clear hr6; obtain ⟨A6, c6, e6, hl6, hc6⟩ := ho.reads (i := q + 2) (by rw [List.getElem?_set_self (List.getElem?_eq_some_iff.1 HI5.out).1]); cases e6; obtain ⟨HM6, HB6, hx6, hf6⟩ := MS.store_head ho HM4.out.2.1 HM4.out.2.2 hlt rfl hb; have HM7 := Aside0.mk HM6; have HB7 := Aside0.mk HB6; have HH6 := Aside0.mk hx6; clear HM6 HB6 ho hb hs hl6 hc6 hx6; have hx6 := HH6.out))
                  go_roundg (80 - (m + 1))
                  case measure => have := HK4.out; omega
                  case rel => exact ⟨m + 1, by omega, by go_num, ⟨by omega⟩, _, _, ⟨by have h := HP4.out.snoc (by rw [HXL.out]; exact hlt) (-500000 - (q : Int)) (by omega); rwa [HR6.out] at h⟩, HM7, HB7⟩
                · have hm80 : m = 80 := by omega
                  subst hm80
                  go_wp2_with (fail)
                  go_roundg (N - (q + 1))
                  case measure => have := HK.out; omega
                  case rel => exact ⟨q + 1, by omega, by go_num, ⟨by omega⟩, hs4, us4, ⟨HP4.out.next⟩, HM4, HB4⟩
        · have hqN : q = N := by omega
          have HG9 := Aside0.mk (show Grew xs zs N 0 by have h := HP2.out; rwa [hqN] at h)
          have hll : (lens xs).length = N := by unfold lens; rw [List.length_map, HXL.out]
          obtain ⟨g3, c3, e3, _⟩ := HM2.out.1.form (i := 0) rfl (by rw [hll]; omega)
          rw [hll] at e3
          subst e3
          have HLL := Aside0.mk hll
          clear hqN hll HP2
          go_wp2_with (fail)
          go_loopg [87] N (fun k v87 wr => ∃ q : Nat, q ≤ N ∧ v87 = .int .i64 q ∧ Aside0 (k + q = N) ∧ Aside0 (MS wr base g N c (.slice (some ⟨g3, 0, none⟩) N c3) (lens xs) hs2 zs L) ∧ Aside0 (Below base w wr))
          case atStart => exact ⟨0, Nat.zero_le _, rfl, ⟨by omega⟩, HM2, HB2⟩
          case round =>
            obtain ⟨q, hq, rfl, HK9, HM3, HB3⟩ := hrel
            clear HM2 HB2
            by_cases hlt9 : q < N
            · obtain ⟨n, hn⟩ : ∃ n, (xs.getD q []).length = n := ⟨_, rfl⟩
              have HNX := Aside0.mk hn
              have hn16 : n ≤ 16 := by rw [← hn]; exact HRL.out q
              have hz : (zs.getD q []).length = n + 96 := by
                have h := (HG9.out.2 q (by rw [HXL.out]; exact hlt9)).1
                rw [if_pos hlt9, hn] at h
                exact h
              have HZ := Aside0.mk hz
              have HLQ := Aside0.mk (show (lens xs).getD q 0 = (n : Int) by rw [lens_getD xs q (by rw [HXL.out]; exact hlt9), hn])
              clear hn hz
              go_wp2_with (fail)
              go_loopg [10] n (fun k v10 wr => ∃ j : Nat, j ≤ n ∧ v10 = .int .i64 j ∧ Aside0 (k + j = n) ∧ Aside0 (MS wr base g N c (.slice (some ⟨g3, 0, none⟩) N c3) (lens xs) hs2 zs L) ∧ Aside0 (Below base w wr))
              case atStart => exact ⟨0, Nat.zero_le _, rfl, ⟨by omega⟩, HM3, HB3⟩
              case round =>
                obtain ⟨j, hj, rfl, HKA, HM4, HB4⟩ := hrel
                clear HM3 HB3
                have hlong := (HM4.out.1.get1 (enc := Value.int .i64) (hone := fun _ => rfl) (i := 0) rfl 0 (q : Int) (by omega) (by omega)).1
                rw [Int.toNat_natCast, show rdOf 0 (lens xs) (q : Int) = (n : Int) from HLQ.out] at hlong
                by_cases hjl : j < n
                · obtain ⟨g5, c5, hx0, hx1, _, _, _⟩ := HM4.out.store HB4.out q hlt9 j (by rw [HZ.out]; omega) 0
                  rw [HZ.out] at hx0
                  rw [(HG9.out.2 q (by rw [HXL.out]; exact hlt9)).2.1 j (by rw [HNX.out]; exact hjl)] at hx1
                  have hw1 : wrap64 (1000 * (q : Int)) = 1000 * (q : Int) := by unfold wrap64; omega
                  have hw2 : wrap64 (1000 * (q : Int) + (j : Int)) = 1000 * (q : Int) + (j : Int) := by unfold wrap64; omega
                  go_wp2_with (fail)
                  go_roundg (n - (j + 1))
                  case measure => have := HKA.out; omega
                  case rel => exact ⟨j + 1, by omega, by go_num, ⟨by omega⟩, HM4, HB4⟩
                · go_wp2_with (fail)
                  clear hlong
                  go_loopg [11] 16 (fun k v11 wr => ∃ j : Nat, j ≤ 16 ∧ v11 = .int .i64 j ∧ Aside0 (k + j = 16) ∧ Aside0 (MS wr base g N c (.slice (some ⟨g3, 0, none⟩) N c3) (lens xs) hs2 zs L) ∧ Aside0 (Below base w wr))
                  case atStart => exact ⟨0, Nat.zero_le _, rfl, ⟨by omega⟩, HM4, HB4⟩
                  case round =>
                    obtain ⟨m, hm, rfl, HKB, HM5, HB5⟩ := hrel
                    clear HM4 HB4
                    have hlong := (HM5.out.1.get1 (enc := Value.int .i64) (hone := fun _ => rfl) (i := 0) rfl 0 (q : Int) (by omega) (by omega)).1
                    rw [Int.toNat_natCast, show rdOf 0 (lens xs) (q : Int) = (n : Int) from HLQ.out] at hlong
                    by_cases hml : m < 16
                    · obtain ⟨g5, c5, hx0, hx1, _, _, _⟩ := HM5.out.store HB5.out q hlt9 (n + m) (by rw [HZ.out]; omega) 0
                      rw [HZ.out] at hx0
                      have h6 := (HG9.out.2 q (by rw [HXL.out]; exact hlt9)).2.2 m hml (by rw [HNX.out, HZ.out]; omega)
                      rw [HNX.out] at h6
                      rw [h6] at hx1
                      clear h6
                      have hw1 : wrap64 (1000 * (q : Int)) = 1000 * (q : Int) := by unfold wrap64; omega
                      have hw2 : wrap64 (-1 - 1000 * (q : Int)) = -1 - 1000 * (q : Int) := by unfold wrap64; omega
                      have hw3 : wrap64 (-1 - 1000 * (q : Int) - (m : Int)) = -1 - 1000 * (q : Int) - (m : Int) := by unfold wrap64; omega
                      obtain ⟨t, ht⟩ : ∃ t, n + m = t := ⟨_, rfl⟩
                      obtain ⟨n2, hn2⟩ : ∃ t, n + 96 = t := ⟨_, rfl⟩
                      rw [ht] at hx1
                      rw [hn2] at hx0
                      have hq1 : (IntKind.i64).wrap (1000 * (q : Int)) = 1000 * (q : Int) := IntWalk.i64_in _ (by omega)
                      have hq2 : (IntKind.i64).wrap (-1 - 1000 * (q : Int)) = -1 - 1000 * (q : Int) := IntWalk.i64_in _ (by omega)
                      have hq3 : (IntKind.i64).wrap (-1 - 1000 * (q : Int) - (m : Int)) = -1 - 1000 * (q : Int) - (m : Int) := IntWalk.i64_in _ (by omega)
                      have hq4 : (IntKind.i64).wrap ((n : Int) + (m : Int)) = (t : Int) := by rw [IntWalk.i64_in _ (by omega), ← ht]; omega
                      have hi2 : (q : Int) < (N : Int) := by omega
                      have hi4 : (t : Int) < (n2 : Int) := by omega
                      clear hw1 hw2 hw3 ht hn2
                      go_wp2_with (fail)
                      go_quiet (fail)
                      clear hq1 hq2 hq3 hq4
                      go_wp2_with (fail)
                      go_roundg (16 - (m + 1))
                      case measure => have := HKB.out; omega
                      case rel => exact ⟨m + 1, by omega, by go_num, ⟨by omega⟩, ⟨HM5.out.drewN _⟩, ⟨pw_below_drewN HB5.out _⟩⟩
                    · go_wp2_with (fail)
                      go_roundg (N - (q + 1))
                      case measure => have := HK9.out; omega
                      case rel => exact ⟨q + 1, by omega, by go_num, ⟨by omega⟩, HM5, HB5⟩
            · go_wp2_with (fail)
              go_ret
              exact ⟨rfl, HM3.out.1.tail.tail.after _, HB3.out⟩
end Go.Proofs.Ythpdemfehkoniaa.PSet
