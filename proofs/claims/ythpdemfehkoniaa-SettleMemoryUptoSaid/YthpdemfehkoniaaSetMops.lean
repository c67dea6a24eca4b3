/- markOps: the walk. Condition: at most 2097152 ops in each list. -/
import Derived.Test.YthpdemfehkoniaaSetMem
import Derived.IntWalk
import Derived.Test.YthpdemfehkoniaaSet2
namespace Go.Proofs.Ythpdemfehkoniaa.PSet
open Go.RowKit Go.Proofs.YthpdemfehkoniaaW.PrintWords Go.Proofs.YthpdemfehkoniaaW.PrintLast Go.Proofs.YthpdemfehkoniaaW.PrintMore Go.Proofs.YthpdemfehkoniaaW.AO
attribute [local go_sem high] eqA29
set_option linter.unusedVariables false
set_option linter.unusedSimpArgs false
set_option maxHeartbeats 16000000 in
set_option maxRecDepth 100000 in
theorem markOps_calls (va vb : Value) (xa xb : List S29) (n m : Nat) (hna : xa.length = n) (hnb : xb.length = m) (hn : n ≤ 2097152) (hm : m ≤ 2097152) (L : List Ob) (w : World) (base : Nat)
    (h : AO w base (⟨k29, 29, va, xa⟩ :: ⟨k29, 29, vb, xb⟩ :: L)) (hb : base ≤ w.heap.size) :
    Calls Try.prog 34 #[va, vb] w fun e w' => e = .returned (.bool true) ∧ AO w' base L ∧ Below base w w' := by
  have hu29 := Try.underlying29
  obtain ⟨A0, c0, e0, _, _⟩ := h.reads (i := 0) rfl
  obtain ⟨A1, c1, e1, _, _⟩ := h.reads (i := 1) rfl
  subst e0 e1
  rw [hna, hnb] at h ⊢
  have HO0 := Aside0.mk h
  have HB0 := Aside0.mk (Below.refl base w)
  have HBS := Aside0.mk hb
  have HNA := Aside0.mk hna
  have HNB := Aside0.mk hnb
  clear h hb hna hnb
  go_enter Try.func34, Try.ntmps34
  go_wp2_with (fail)
  go_loopg [19] n (fun k v19 wr => ∃ i : Nat, i ≤ n ∧ v19 = .int .i64 i ∧ Aside0 (k + i = n) ∧ Aside0 (AO wr base (⟨k29, 29, .slice A0 n c0, ((List.range i).map mA ++ xa.drop i)⟩ :: ⟨k29, 29, .slice A1 m c1, xb⟩ :: L)) ∧ Aside0 (Below base w wr))
  case atStart => exact ⟨0, Nat.zero_le _, rfl, ⟨by omega⟩, ⟨by simpa using HO0.out⟩, HB0⟩
  case round =>
    obtain ⟨i, hi, rfl, HK, HOr, HBr⟩ := hrel
    clear HO0 HB0
    by_cases hlt : i < n
    · obtain ⟨g, cap, eg, hbg⟩ := HOr.out.form (i := 0) rfl (by simp; have := HNA.out; omega)
      have HE := Aside0.mk eg
      have eA : A0 = some ⟨g, 0, none⟩ := by have := HE.out; injection this
      subst eA
      clear eg
      have hw1 : wrap64 (1000 + (i : Int)) = 1000 + (i : Int) := by unfold wrap64; omega
      go_wp2_with (first | ((with_reducible refine gate_store (t := 29) (p := 27) rfl ?_); go_must (refine AO.store (w0 := w) (base := base) (L := (⟨k29, 29, .slice (some ⟨g, 0, none⟩) n c0, ((List.range i).map mA ++ xa.drop i)⟩ :: ⟨k29, 29, .slice A1 m c1, xb⟩ :: L)) 0 k29 rfl rfl 29 (.tmp 27) (.tmp 26) rfl 29 (g := g) (o' := i * 7) (n := n) (cap := c0) (i : Int) ((List.range i).map mA ++ xa.drop i) z29 (mA i) (.agg #[.int .i64 (1000 + (i : Int)), .int .i64 0, .int .i64 0, .int .i64 0, .string ⟨#[]⟩, .int .i64 0, .int .i64 0]) [.int .i64 (1000 + (i : Int)), .int .i64 0, .int .i64 0, .int .i64 0, .string ⟨#[]⟩, .int .i64 0, .int .i64 0] ?ha_19 ?hoff_19 ?hx_19 ?hu_19 ?ht_19 ?h1_19 ?hsz_19 ?h_19 ?hi_19 ?h0_19 ?hj_19 ?hM_19 ?HB_19 ?_); (case ha_19 => first | (go_simp; done) | (go_simp; rfl)); (case hoff_19 => first | rfl | simp [k29, Kd.iso, Kd.pair, Kd.int, Kd.string, Kd.scalar]); (case hx_19 => first | (go_simp; done) | (go_simp; rfl)); (case hu_19 => rfl); (case hsz_19 => rfl); (case h0_19 => omega); (case hj_19 => omega); (case ht_19 => kernel_rfl); (case h1_19 => simp [Value.oneCell']); (case h_19 => exact HOr.out); (case hi_19 => rfl); (case hM_19 => exact k29_mkM _ _ _ (mA i)); (case HB_19 => exact HBr.out); intro w5 ho hb hs; have HO5 := Aside0.mk ho; have HB5 := Aside0.mk hb; clear ho hb hs))
      go_roundg (n - (i + 1))
      case measure => have := HK.out; omega
      case rel => exact ⟨i + 1, by omega, by go_num, ⟨by omega⟩, ⟨by have h := HO5.out; simp only [Int.toNat_natCast, List.set_cons_zero, List.set_cons_succ] at h; rw [set_mark] at h; exact h; (have := HNA.out; omega)⟩, HB5⟩
    · have HO9 := Aside0.mk (show AO wr base (⟨k29, 29, .slice A0 n c0, (List.range n).map mA⟩ :: ⟨k29, 29, .slice A1 m c1, xb⟩ :: L) by have h := HOr.out; rw [show i = n by omega] at h; rw [show xa.drop n = [] from List.drop_of_length_le (by have := HNA.out; omega), List.append_nil] at h; exact h)
      have HB9 := HBr
      clear HOr HBr
      go_wp2_with (fail)
      go_loopg [31] m (fun k v31 wr => ∃ i : Nat, i ≤ m ∧ v31 = .int .i64 i ∧ Aside0 (k + i = m) ∧ Aside0 (AO wr base (⟨k29, 29, .slice A0 n c0, ((List.range n).map mA)⟩ :: ⟨k29, 29, .slice A1 m c1, ((List.range i).map mB ++ xb.drop i)⟩ :: L)) ∧ Aside0 (Below base w wr))
      case atStart => exact ⟨0, Nat.zero_le _, rfl, ⟨by omega⟩, ⟨by simpa using HO9.out⟩, HB9⟩
      case round =>
        obtain ⟨i, hi, rfl, HK, HOr, HBr⟩ := hrel
        clear HO9 HB9
        by_cases hlt : i < m
        · obtain ⟨g, cap, eg, hbg⟩ := HOr.out.form (i := 1) rfl (by simp; have := HNB.out; omega)
          have HE := Aside0.mk eg
          have eA : A1 = some ⟨g, 0, none⟩ := by have := HE.out; injection this
          subst eA
          clear eg
          have hw1 : wrap64 (-1000 - (i : Int)) = -1000 - (i : Int) := by unfold wrap64; omega
          go_wp2_with (first | ((with_reducible refine gate_store (t := 29) (p := 39) rfl ?_); go_must (refine AO.store (w0 := w) (base := base) (L := (⟨k29, 29, .slice A0 n c0, ((List.range n).map mA)⟩ :: ⟨k29, 29, .slice (some ⟨g, 0, none⟩) m c1, ((List.range i).map mB ++ xb.drop i)⟩ :: L)) 1 k29 rfl rfl 29 (.tmp 39) (.tmp 38) rfl 29 (g := g) (o' := i * 7) (n := m) (cap := c1) (i : Int) ((List.range i).map mB ++ xb.drop i) z29 (mB i) (.agg #[.int .i64 (-1000 - (i : Int)), .int .i64 0, .int .i64 0, .int .i64 0, .string ⟨#[]⟩, .int .i64 0, .int .i64 0]) [.int .i64 (-1000 - (i : Int)), .int .i64 0, .int .i64 0, .int .i64 0, .string ⟨#[]⟩, .int .i64 0, .int .i64 0] ?ha_31 ?hoff_31 ?hx_31 ?hu_31 ?ht_31 ?h1_31 ?hsz_31 ?h_31 ?hi_31 ?h0_31 ?hj_31 ?hM_31 ?HB_31 ?_); (case ha_31 => first | (go_simp; done) | (go_simp; rfl)); (case hoff_31 => first | rfl | simp [k29, Kd.iso, Kd.pair, Kd.int, Kd.string, Kd.scalar]); (case hx_31 => first | (go_simp; done) | (go_simp; rfl)); (case hu_31 => rfl); (case hsz_31 => rfl); (case h0_31 => omega); (case hj_31 => omega); (case ht_31 => kernel_rfl); (case h1_31 => simp [Value.oneCell']); (case h_31 => exact HOr.out); (case hi_31 => rfl); (case hM_31 => exact k29_mkM _ _ _ (mB i)); (case HB_31 => exact HBr.out); intro w5 ho hb hs; have HO5 := Aside0.mk ho; have HB5 := Aside0.mk hb; clear ho hb hs))
          go_roundg (m - (i + 1))
          case measure => have := HK.out; omega
          case rel => exact ⟨i + 1, by omega, by go_num, ⟨by omega⟩, ⟨by have h := HO5.out; simp only [Int.toNat_natCast, List.set_cons_zero, List.set_cons_succ] at h; rw [set_mark] at h; exact h; (have := HNB.out; omega)⟩, HB5⟩
        · have HO9 := Aside0.mk (show AO wr base (⟨k29, 29, .slice A0 n c0, ((List.range n).map mA)⟩ :: ⟨k29, 29, .slice A1 m c1, (List.range m).map mB⟩ :: L) by have h := HOr.out; rw [show i = m by omega] at h; rw [show xb.drop m = [] from List.drop_of_length_le (by have := HNB.out; omega), List.append_nil] at h; exact h)
          have HB9 := HBr
          clear HOr HBr
          go_wp2_with (fail)
          go_loopg [0, 9] 80 (fun k v0 v9 wr => ∃ i : Nat, i ≤ 80 ∧ v9 = .int .i64 i ∧ Aside0 (k + i = 80) ∧ Aside0 (AO wr base (⟨k29, 29, v0, ((List.range n).map mA ++ (List.range i).map tA)⟩ :: ⟨k29, 29, .slice A1 m c1, ((List.range m).map mB)⟩ :: L)) ∧ Aside0 (Below base w wr))
          case atStart => exact ⟨0, Nat.zero_le _, rfl, ⟨by omega⟩, ⟨by simpa using HO9.out⟩, HB9⟩
          case round =>
            obtain ⟨i, hi, rfl, HK, HOr, HBr⟩ := hrel
            clear HO9 HB9
            by_cases hlt : i < 80
            · have HL5 := Aside0.mk (show (((List.range n).map mA ++ (List.range i).map tA).length + 1) * 64 ≤ 140737488355328 by simp; omega)
              go_wp2_with (first | ((with_reducible refine gate_builtin (b := .append) (xs := #[.tmp 45, .tmp 48]) rfl ?_); at_builtin; go_must (refine AO.append (w0 := w) (base := base) (L := (⟨k29, 29, u0, ((List.range n).map mA ++ (List.range i).map tA)⟩ :: ⟨k29, 29, .slice A1 m c1, ((List.range m).map mB)⟩ :: L)) 0 k29 ((List.range n).map mA ++ (List.range i).map tA) (tA i) [.int .i64 2, .int .i64 0, .int .i64 0, .int .i64 0, .string ⟨#[]⟩, .int .i64 0, .int .i64 (i : Int)] rfl (.tmp 45) (.tmp 48) 23 29 _ 64 u0 rfl Try.underlying23 info29 rfl ?hs0_9 ?hb0_9 rfl ?hx_9 ?hp_9 ?h_9 rfl ?HB_9 ?hbase_9 ?hl_9 ?_); (case hs0_9 => decide); (case hb0_9 => decide); (case hx_9 => first | (go_simp; done) | (go_simp; rfl)); (case hp_9 => exact k29_mkM _ _ _ (tA i)); (case h_9 => exact HOr.out); (case HB_9 => exact HBr.out); (case hbase_9 => exact Nat.le_trans HBS.out HBr.out.size); (case hl_9 => exact HL5.out); intro v6 w6 ho hb hs; have HO6 := Aside0.mk ho; have HB6 := Aside0.mk hb; clear ho hb hs))
              go_roundg (80 - (i + 1))
              case measure => have := HK.out; omega
              case rel => exact ⟨i + 1, by omega, by go_num, ⟨by omega⟩, ⟨by have h := HO6.out; simp only [List.set_cons_zero, List.set_cons_succ] at h; rw [snoc_mark] at h; exact h⟩, HB6⟩
            · obtain ⟨v0, hv0⟩ : ∃ v, v = u0 := ⟨_, rfl⟩
              rw [← hv0]
              have HO8 := Aside0.mk (show AO wr base (⟨k29, 29, v0, ((List.range n).map mA ++ (List.range 80).map tA)⟩ :: ⟨k29, 29, .slice A1 m c1, ((List.range m).map mB)⟩ :: L) by have h := HOr.out; rw [show i = 80 by omega] at h; rw [hv0]; exact h)
              have HB8 := HBr
              clear HOr HBr hv0
              go_wp2_with (fail)
              go_loopg [1, 10] 80 (fun k v1 v10 wr => ∃ i : Nat, i ≤ 80 ∧ v10 = .int .i64 i ∧ Aside0 (k + i = 80) ∧ Aside0 (AO wr base (⟨k29, 29, v0, ((List.range n).map mA ++ (List.range 80).map tA)⟩ :: ⟨k29, 29, v1, ((List.range m).map mB ++ (List.range i).map tB)⟩ :: L)) ∧ Aside0 (Below base w wr))
              case atStart => exact ⟨0, Nat.zero_le _, rfl, ⟨by omega⟩, ⟨by simpa using HO8.out⟩, HB8⟩
              case round =>
                obtain ⟨i, hi, rfl, HK, HOr, HBr⟩ := hrel
                clear HO8 HB8
                by_cases hlt : i < 80
                · have HL5 := Aside0.mk (show (((List.range m).map mB ++ (List.range i).map tB).length + 1) * 64 ≤ 140737488355328 by simp; omega)
                  go_wp2_with (first | ((with_reducible refine gate_builtin (b := .append) (xs := #[.tmp 54, .tmp 57]) rfl ?_); at_builtin; go_must (refine AO.append (w0 := w) (base := base) (L := (⟨k29, 29, v0, ((List.range n).map mA ++ (List.range 80).map tA)⟩ :: ⟨k29, 29, u1, ((List.range m).map mB ++ (List.range i).map tB)⟩ :: L)) 1 k29 ((List.range m).map mB ++ (List.range i).map tB) (tB i) [.int .i64 3, .int .i64 0, .int .i64 0, .int .i64 0, .string ⟨#[]⟩, .int .i64 0, .int .i64 (i : Int)] rfl (.tmp 54) (.tmp 57) 23 29 _ 64 u1 rfl Try.underlying23 info29 rfl ?hs0_10 ?hb0_10 rfl ?hx_10 ?hp_10 ?h_10 rfl ?HB_10 ?hbase_10 ?hl_10 ?_); (case hs0_10 => decide); (case hb0_10 => decide); (case hx_10 => first | (go_simp; done) | (go_simp; rfl)); (case hp_10 => exact k29_mkM _ _ _ (tB i)); (case h_10 => exact HOr.out); (case HB_10 => exact HBr.out); (case hbase_10 => exact Nat.le_trans HBS.out HBr.out.size); (case hl_10 => exact HL5.out); intro v6 w6 ho hb hs; have HO6 := Aside0.mk ho; have HB6 := Aside0.mk hb; clear ho hb hs))
                  go_roundg (80 - (i + 1))
                  case measure => have := HK.out; omega
                  case rel => exact ⟨i + 1, by omega, by go_num, ⟨by omega⟩, ⟨by have h := HO6.out; simp only [List.set_cons_zero, List.set_cons_succ] at h; rw [snoc_mark] at h; exact h⟩, HB6⟩
                · obtain ⟨v1, hv1⟩ : ∃ v, v = u1 := ⟨_, rfl⟩
                  rw [← hv1]
                  have HO8 := Aside0.mk (show AO wr base (⟨k29, 29, v0, ((List.range n).map mA ++ (List.range 80).map tA)⟩ :: ⟨k29, 29, v1, ((List.range m).map mB ++ (List.range 80).map tB)⟩ :: L) by have h := HOr.out; rw [show i = 80 by omega] at h; rw [hv1]; exact h)
                  have HB8 := HBr
                  clear HOr HBr hv1
                  go_wp2_with (fail)
                  obtain ⟨Aa, ca, ea, hca, hCa⟩ := HO8.out.reads (i := 0) rfl
                  obtain ⟨Ab, cb, eb, hcb, hCb⟩ := HO8.out.reads (i := 1) rfl
                  obtain ⟨n8, hn8⟩ : ∃ q, n + 80 = q := ⟨_, rfl⟩
                  obtain ⟨m8, hm8⟩ : ∃ q, m + 80 = q := ⟨_, rfl⟩
                  have hla : ((List.range n).map mA ++ (List.range 80).map tA).length = n8 := by rw [← hn8]; simp
                  have hlb : ((List.range m).map mB ++ (List.range 80).map tB).length = m8 := by rw [← hm8]; simp
                  rw [hla] at ea hca hCa
                  rw [hlb] at eb hcb hCb
                  subst ea eb
                  have HCA := Aside0.mk hCa
                  have HCB := Aside0.mk hCb
                  have HN8 := Aside0.mk hn8
                  have HM8 := Aside0.mk hm8
                  have HWN := Aside0.mk (show wrap64 ((n : Int) + 80) = (n8 : Int) by rw [← hn8]; unfold wrap64; omega)
                  clear hCa hCb hca hcb hla hlb hn8 hm8
                  obtain ⟨W8, hW8⟩ : ∃ W, W = wr := ⟨_, rfl⟩
                  rw [← hW8] at HO8 HB8 HCA HCB ⊢
                  clear hW8
                  go_wp2_with (fail)
                  go_loopg [11] n (fun k v11 wx => ∃ i : Nat, i ≤ n ∧ v11 = .int .i64 i ∧ Aside0 (k + i = n) ∧ wx = W8)
                  case atStart => exact ⟨0, Nat.zero_le _, rfl, ⟨by omega⟩, rfl⟩
                  case round =>
                    obtain ⟨i, hi, rfl, HK, rfl⟩ := hrel
                    by_cases hlt : i < n
                    · have hiN : (i : Int) < (n8 : Int) := by have := HN8.out; have := HM8.out; omega
                      obtain ⟨ad, e0, x0, x1, x2, x3, x4, x5, x6⟩ := at_T29 HCA.out (i : Int) (by omega) hiN
                      rw [rd_mark _ _ _ _ _ hlt] at x0 x1 x2 x3 x4 x5 x6
                      cases e0
                      simp only [Int.toNat_natCast, mA] at x0 x1 x2 x3 x4 x5 x6
                      go_wp2_with (fail)
                      go_roundg (n - (i + 1))
                      case measure => have := HK.out; omega
                      case rel => exact ⟨i + 1, by omega, by go_num, ⟨by omega⟩, rfl⟩
                    · obtain ⟨W8, hW8⟩ : ∃ W, W = wr := ⟨_, rfl⟩
                      rw [← hW8] at HO8 HB8 HCA HCB ⊢
                      clear hW8
                      go_wp2_with (fail)
                      go_loopg [12] m (fun k v12 wx => ∃ i : Nat, i ≤ m ∧ v12 = .int .i64 i ∧ Aside0 (k + i = m) ∧ wx = W8)
                      case atStart => exact ⟨0, Nat.zero_le _, rfl, ⟨by omega⟩, rfl⟩
                      case round =>
                        obtain ⟨i, hi, rfl, HK, rfl⟩ := hrel
                        by_cases hlt : i < m
                        · have hiN : (i : Int) < (m8 : Int) := by have := HN8.out; have := HM8.out; omega
                          obtain ⟨ad, e0, x0, x1, x2, x3, x4, x5, x6⟩ := at_T29 HCB.out (i : Int) (by omega) hiN
                          rw [rd_mark _ _ _ _ _ hlt] at x0 x1 x2 x3 x4 x5 x6
                          cases e0
                          simp only [Int.toNat_natCast, mB] at x0 x1 x2 x3 x4 x5 x6
                          go_wp2_with (fail)
                          go_roundg (m - (i + 1))
                          case measure => have := HK.out; omega
                          case rel => exact ⟨i + 1, by omega, by go_num, ⟨by omega⟩, rfl⟩
                        · have y0 := at_T29 HCA.out (n : Int) (by omega) (by have := HN8.out; omega)
                          have y1 := at_T29 HCB.out (m : Int) (by omega) (by have := HM8.out; omega)
                          rw [rd_tail _ _ _ _ (by omega)] at y0 y1
                          obtain ⟨ad0, e0, p0, p1, p2, p3, p4, p5, p6⟩ := y0
                          obtain ⟨ad1, e1, q0, q1, q2, q3, q4, q5, q6⟩ := y1
                          cases e0
                          cases e1
                          simp only [Int.toNat_natCast, tA, tB] at p0 p1 p2 p3 p4 p5 p6 q0 q1 q2 q3 q4 q5 q6
                          have hin : (n : Int) < (n8 : Int) := by have := HN8.out; omega
                          have him : (m : Int) < (m8 : Int) := by have := HM8.out; omega
                          have hBq : ((n8 : Int) == (n : Int) + 80) = true := by rw [beq_iff_eq]; have := HN8.out; omega
                          go_wp2_with (fail)
                          go_ret
                          exact ⟨rfl, HO8.out.tail.tail, HB8.out⟩
end Go.Proofs.Ythpdemfehkoniaa.PSet
