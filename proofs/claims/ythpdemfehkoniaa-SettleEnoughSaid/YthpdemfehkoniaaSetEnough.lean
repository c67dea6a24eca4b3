/- SettleEnough: the walk of the statement. Condition: the pairs and the picks take at most 140737488351232 bytes each. -/
import Derived.Test.YthpdemfehkoniaaSetEn
namespace Go.Proofs.Ythpdemfehkoniaa.PSet
open Go.RowKit Go.Proofs.YthpdemfehkoniaaW.PrintWords Go.Proofs.YthpdemfehkoniaaW.PrintLast Go.Proofs.YthpdemfehkoniaaW.PrintMore Go.Proofs.YthpdemfehkoniaaW.AO
attribute [local go_sem] max2_int min2_int max_two min_two
set_option linter.unusedVariables false
set_option linter.unusedSimpArgs false
theorem en1 : settle_Enough.f 500 1 ([] : List S26) = some true := by decide +kernel
theorem en2 : settle_Enough.f 500 2 ([] : List S26) = some false := by decide +kernel
theorem k26_KM (w : World) (base : Nat) (x : S26) (cs : List Value) (h : k26.K w x cs) : k26.M w base (fun _ => False) x cs := by
  obtain rfl := k26_open h
  exact k26_mkM _ _ _ x
theorem filter_next (l : List S26) (i : Nat) (h : i < l.length) : (l.take (i + 1)).filter (fun p : S26 => decide (p.f1 ≠ 0)) = if decide ((rd_T26 l (i : Int)).f1 ≠ 0) = true then (l.take i).filter (fun p : S26 => decide (p.f1 ≠ 0)) ++ [rd_T26 l (i : Int)] else (l.take i).filter (fun p : S26 => decide (p.f1 ≠ 0)) := by
  have e : rd_T26 l (i : Int) = l[i] := by simp [rd_T26, List.getD_eq_getElem?_getD, List.getElem?_eq_getElem h]
  rw [e, List.take_succ_eq_append_getElem h, List.filter_append, List.filter_cons]
  split <;> simp
theorem clamp_mx (a : Int) (n : Nat) (h : settle_clamp.f a = some (n : Int)) : mx 1 (mn 16 a) = (n : Int) := Option.some.inj h
set_option maxHeartbeats 16000000 in
set_option maxRecDepth 100000 in
theorem SettleEnough_calls (a0 : Int) (n : Nat) (h1n : 1 ≤ n) (hn : n ≤ 16) (hc : settle_clamp.f a0 = some (n : Int)) (hrep : barrowref26_Reps.f a0 = some (n : Int)) (A1 : Option Addr) (c1 : Nat) (l1 : List S26) (A2 : Option Addr) (c2 : Nat) (l2 : List Int) (w : World)
    (hr1 : Kd.C k26 w A1 l1.length l1) (hc1 : l1.length ≤ c1) (hl1 : l1.length * 16 ≤ 140737488351232) (hr2 : Kd.C (Kd.int .i64) w A2 l2.length l2) (hc2 : l2.length ≤ c2) (hl2 : l2.length ≤ 9000000000000000000) :
    Calls Try.prog 9 #[.int .i64 a0, .slice A1 l1.length c1, .slice A2 l2.length c2] w fun e w' => e = .returned (.bool true) ∧ Below w.heap.size w w' := by
  have HR1 := Aside0.mk hr1
  have HC1 := Aside0.mk hc1
  have HR2 := Aside0.mk hr2
  have HC2 := Aside0.mk hc2
  have HE := Aside0.mk hc
  have HN := Aside0.mk hrep
  have hl' : l1.length < 8796093022208 := by omega
  have HL' := Aside0.mk hl'
  have HX2 := Aside0.mk (show l2.length ≤ 9000000000000000000 from hl2)
  have hmx := clamp_mx a0 n hc
  have HMX := Aside0.mk hmx
  clear hr1 hc1 hr2 hc2 hc hrep hl' hl1 hmx
  have hn' : (n : Int) ≤ 16 := by omega
  have h1n' : (1 : Int) ≤ n := by omega
  obtain ⟨E, hE⟩ : ∃ E, fullB n (msAll n l1) = E := ⟨_, rfl⟩
  have HEe := Aside0.mk (show settle_Enough.f (l1.length + 400) a0 l1 = some E by rw [← hE]; exact enough_eq a0 n HE.out hn l1 (by have := HL'.out; omega) _ (Nat.le_refl _))
  have HEr := Aside0.mk (show refB n (rOut n (l1.map toRef) n) = E by rw [ref_full n hn, hE])
  clear hE
  obtain ⟨q0, hq0, hq0l, hq0m⟩ := shuf_ok (PL n) l2 (by have := PL_len n (by omega); omega) HX2.out
  have HQ0 := Aside0.mk hq0
  have HQE := Aside0.mk (show settle_Enough.f (q0.length + 400) a0 q0 = some true by
    rw [enough_eq a0 n HE.out hn q0 (by have := PL_len n (by omega); omega) _ (Nat.le_refl _), all_enough n hn q0 hq0m])
  clear hq0 hq0l hq0m
  have HO0 := Aside0.mk (AO.nil w w.heap.size)
  have HB0 := Aside0.mk (Below.refl w.heap.size w)
  go_enter Try.func9, Try.ntmps9
  go_wp2_with (first
    | ((with_reducible refine gate_callee (f := 25) rfl ?_); refine goesL_ (some 14) rfl rfl Try.func25 (by kernel_rfl) rfl #[.int .i64 1, .slice none ([] : List S26).length 0] rfl (by (simp only [List.map_toArray, List.map_cons, List.map_nil]; first | done | rfl)) ?_; (refine (settle_Enough.calls 500 1 none 0 [] true _ (Kd.C_nil _ _) (Nat.le_refl _) en1).mono ?_); rintro e w14 ⟨rfl, hb14⟩; refine ⟨_, rfl, ?_⟩; have HO14 := Aside0.mk (HO0.out.below hb14); have HB14 := Aside0.mk (below_step HB0.out hb14); clear hb14 HO0 HB0)
    | ((with_reducible refine gate_callee (f := 12) rfl ?_); refine goesL_ (some 21) rfl rfl Try.func12 (by kernel_rfl) rfl #[.slice A1 l1.length c1] rfl (by (simp only [List.map_toArray, List.map_cons, List.map_nil, List.length_map]; first | done | rfl)) ?_; (refine (barrowlaw26_copyPairs.calls A1 c1 l1 l1 _ (Kd.C_below HR1.out HB17.out) HC1.out (copyPairs_self l1 HL'.out)).mono ?_); rintro e w21 ⟨v21, rfl, ho21, hb21⟩; refine ⟨_, rfl, ?_⟩; have HO21 := Aside0.mk (HO17.out.push hb21 HB17.out.size ho21); have HB21 := Aside0.mk (below_step HB17.out hb21); clear ho21 hb21 HO17 HB17; obtain ⟨A21, c21, rfl, hc21, _⟩ := HO21.out.reads (i := 0) rfl; have HD21 := Aside0.mk hc21; clear hc21)
    | ((with_reducible refine gate_callee (f := 25) rfl ?_); refine goesL_ (some 22) rfl rfl Try.func25 (by kernel_rfl) rfl #[.int .i64 a0, .slice A21 l1.length c21] rfl (by (simp only [List.map_toArray, List.map_cons, List.map_nil, List.length_map]; first | done | rfl)) ?_; (refine (settle_Enough.calls _ a0 A21 c21 l1 E _ (Kd.R_reads' (HO21.out.own (i := 0) rfl)).2.2 HD21.out HEe.out).mono ?_); rintro e w22 ⟨rfl, hb22⟩; refine ⟨_, rfl, ?_⟩; have HO22 := Aside0.mk (HO21.out.below hb22); have HB22 := Aside0.mk (below_step HB21.out hb22); clear hb22 HO21 HB21)
    | ((with_reducible refine gate_callee (f := 22) rfl ?_); refine goesL_ (some 25) rfl rfl Try.func22 (by kernel_rfl) rfl #[.slice A1 l1.length c1] rfl (by (simp only [List.map_toArray, List.map_cons, List.map_nil, List.length_map]; first | done | rfl)) ?_; (refine (barrowlaw26_refPairs.calls (l1.length + 1) A1 c1 l1 (l1.map toRef) _ (Kd.C_below HR1.out HB22.out) HC1.out (refPairs_eq l1 HL'.out)).mono ?_); rintro e w25 ⟨v25, rfl, ho25, hb25⟩; refine ⟨_, rfl, ?_⟩; have HO25 := Aside0.mk (HO22.out.push hb25 HB22.out.size ho25); have HB25 := Aside0.mk (below_step HB22.out hb25); clear ho25 hb25 HO22 HB22; obtain ⟨A25, c25, rfl, hc25, _⟩ := HO25.out.reads (i := 0) rfl; have HD25 := Aside0.mk hc25; clear hc25)
    | ((with_reducible refine gate_callee (f := 27) rfl ?_); refine goesL_ (some 26) rfl rfl Try.func27 (by kernel_rfl) rfl #[.int .i64 a0, .slice A25 (l1.map toRef).length c25] rfl (by (simp only [List.map_toArray, List.map_cons, List.map_nil, List.length_map]; first | done | rfl)) ?_; (refine (barrowref26_Enough_calls a0 n HN.out hn A25 c25 (l1.map toRef) _ (Kd.R_reads' (HO25.out.own (i := 0) rfl)).2.2 HD25.out E HEr.out).mono ?_); rintro e w26 ⟨rfl, hb26⟩; refine ⟨_, rfl, ?_⟩; have HO26 := Aside0.mk (HO25.out.below hb26); have HB26 := Aside0.mk (below_step HB25.out hb26); clear hb26 HO25 HB25)
    | ((with_reducible refine gate_callee (f := 14) rfl ?_); refine goesL_ (some 30) rfl rfl Try.func14 (by kernel_rfl) rfl #[.int .i64 a0] rfl (by (simp only [List.map_toArray, List.map_cons, List.map_nil, List.length_map]; first | done | rfl)) ?_; (refine (settle_Pairs.calls 700 a0 (PL n) _ (pairs_eq a0 n h1n hn HE.out)).mono ?_); rintro e w30 ⟨v30, rfl, ho30, hb30⟩; refine ⟨_, rfl, ?_⟩; have HO30 := Aside0.mk (HO26.out.push hb30 HB26.out.size ho30); have HB30 := Aside0.mk (below_step HB26.out hb30); clear ho30 hb30 HO26 HB26; obtain ⟨A30, c30, rfl, hc30, _⟩ := HO30.out.reads (i := 0) rfl; have HD30 := Aside0.mk hc30; clear hc30)
    | ((with_reducible refine gate_callee (f := 28) rfl ?_); refine goesL_ (some 32) rfl rfl Try.func28 (by kernel_rfl) rfl #[.slice A30 (PL n).length c30, .slice A2 l2.length c2] rfl (by (simp only [List.map_toArray, List.map_cons, List.map_nil, List.length_map]; first | done | rfl)) ?_; (refine (barrowlaw26_shuffled.calls 3000 A30 c30 (PL n) A2 c2 l2 q0 _ (Kd.R_reads' (HO30.out.own (i := 0) rfl)).2.2 HD30.out (Kd.C_below HR2.out HB30.out) HC2.out HQ0.out).mono ?_); rintro e w32 ⟨v32, rfl, ho32, hb32⟩; refine ⟨_, rfl, ?_⟩; have HO32 := Aside0.mk (HO30.out.push hb32 HB30.out.size ho32); have HB32 := Aside0.mk (below_step HB30.out hb32); clear ho32 hb32 HO30 HB30; obtain ⟨A32, c32, rfl, hc32, _⟩ := HO32.out.reads (i := 0) rfl; have HD32 := Aside0.mk hc32; clear hc32)
    | ((with_reducible refine gate_callee (f := 25) rfl ?_); refine goesL_ (some 33) rfl rfl Try.func25 (by kernel_rfl) rfl #[.int .i64 a0, .slice A32 q0.length c32] rfl (by (simp only [List.map_toArray, List.map_cons, List.map_nil, List.length_map]; first | done | rfl)) ?_; (refine (settle_Enough.calls _ a0 A32 c32 q0 true _ (Kd.R_reads' (HO32.out.own (i := 0) rfl)).2.2 HD32.out HQE.out).mono ?_); rintro e w33 ⟨rfl, hb33⟩; refine ⟨_, rfl, ?_⟩; have HO33 := Aside0.mk (HO32.out.below hb33); have HB33 := Aside0.mk (below_step HB32.out hb33); clear hb33 HO32 HB32)
    | ((with_reducible refine gate_dst (N := 35) rfl ?_); refine AO.lit (w0 := w) (base := w.heap.size) (L := _) k26 26 rfl 35 rfl (xs := ([] : List S26)) (inner := []) ?hr35 ?hp35 HO33.out HB33.out HB33.out.size ?hm35 ?_; (case hr35 => first | (go_simp; done) | (go_simp; rfl)); (case hp35 => exact Reps.none _ _); (case hm35 => decide); intro v35 w35 ho hb hs; have HO35 := Aside0.mk ho; have HB35 := Aside0.mk hb; clear ho hb hs HO33 HB33)
    | ((with_reducible refine gate_callee (f := 17) rfl ?_); refine goesL_ (some 37) rfl rfl Try.func17 (by kernel_rfl) rfl #[.int .i64 a0] rfl (by (simp only [List.map_toArray, List.map_cons, List.map_nil, List.length_map]; first | done | rfl)) ?_; (refine (settle_Rounds.calls 700 a0 (RL n) _ (rounds_eq a0 n h1n hn HE.out)).mono ?_); rintro e w37 ⟨v37, rfl, ho37, hb37⟩; refine ⟨_, rfl, ?_⟩; have HO37 := Aside0.mk (HO35.out.push hb37 HB35.out.size (Kd.S_R ho37)); have HB37 := Aside0.mk (below_step HB35.out hb37); clear ho37 hb37 HO35 HB35; obtain ⟨A37, c37, rfl, hc37, _⟩ := HO37.out.reads (i := 0) rfl; have HD37 := Aside0.mk hc37; clear hc37)
    | (go_at_call 25; (refine (settle_Enough.calls 500 2 none 0 [] false _ (Kd.C_nil _ _) (Nat.le_refl _) en2).mono ?_); rintro e w17 ⟨rfl, hb17⟩; have HO17 := Aside0.mk (HO14.out.below hb17); have HB17 := Aside0.mk (below_step HB14.out hb17); clear hb17 HO14 HB14))
  obtain ⟨m0, hm0⟩ : ∃ m, (if a0 < 16 then a0 else 16) = m := ⟨_, rfl⟩
  have hm1 : (if 1 < m0 then m0 else 1) = (n : Int) := by
    have h := HMX.out
    unfold mx mn at h
    rw [hm0] at h
    exact h
  have HM0 := Aside0.mk hm0
  have HM1 := Aside0.mk hm1
  clear hm0 hm1
  have hk4 : ((RL n).length : Int) ≤ 4 := by have := RL_len n (by omega); omega
  have HO40 := Aside0.mk (HO37.out.two (i := 1) (j := 0) (by decide) rfl rfl)
  go_loopg [7, 39] (RL n).length (fun k v7 v39 wr => ∃ i : Nat, i ≤ (RL n).length ∧ v39 = .int .i64 i ∧ Aside0 (k + i = (RL n).length) ∧ ∃ acc, Aside0 (Knows n i acc ∧ acc.length = i * n) ∧ Aside0 (AO wr w.heap.size [⟨k26, 26, v7, acc⟩, ⟨Kd.slice 26 k26, 22, .slice A37 (RL n).length c37, RL n⟩]) ∧ Aside0 (Below w.heap.size w wr))
  case atStart => exact ⟨0, Nat.zero_le _, rfl, ⟨rfl⟩, [], ⟨knows_zero n hn, by simp⟩, HO40, HB37⟩
  case round =>
    obtain ⟨i, hi, rfl, HK, acc, HA, HO50, HB50⟩ := hrel
    clear HO40 HB37 HO37
    have HAl := Aside0.mk (show acc.length ≤ 64 by
      have h := HA.out.2
      have h2 : i * n ≤ 4 * 16 := Nat.mul_le_mul (by omega) hn
      omega)
    by_cases hlt : i < (RL n).length
    · obtain ⟨ad, Ai, ci, e0, hx, hli, hCi⟩ := at_L7 (Kd.R_reads' (HO50.out.own (i := 1) rfl)).2.2 (i : Int) (by omega) (by omega)
      cases e0
      simp only [Int.toNat_natCast] at hx
      obtain ⟨rnd, hrnd⟩ : ∃ r, r = rd_L7 (RL n) (i : Int) := ⟨_, rfl⟩
      rw [← hrnd] at hx hli hCi
      have hrl : rnd.length = n := by rw [hrnd]; exact RL_each n (by omega) i hlt
      obtain ⟨q, hq, hql, hqm⟩ := shuf_ok rnd l2 (by omega) HX2.out
      have HQ := Aside0.mk hq
      have HQl := Aside0.mk hql
      have HQm := Aside0.mk hqm
      have HRn := Aside0.mk hrnd
      have HRl := Aside0.mk hrl
      have HCi := Aside0.mk hCi
      have HLi := Aside0.mk hli
      clear hq hql hqm hrnd hrl hCi hli
      go_wp2_with (first
        | ((with_reducible refine gate_callee (f := 28) rfl ?_); refine goesL_ (some 46) rfl rfl Try.func28 (by kernel_rfl) rfl #[.slice Ai rnd.length ci, .slice A2 l2.length c2] rfl (by (simp only [List.map_toArray, List.map_cons, List.map_nil, List.length_map]; first | done | rfl)) ?_; (refine (barrowlaw26_shuffled.calls 3000 Ai ci rnd A2 c2 l2 q _ HCi.out HLi.out (Kd.C_below HR2.out HB50.out) HC2.out HQ.out).mono ?_); rintro e w46 ⟨v46, rfl, ho46, hb46⟩; refine ⟨_, rfl, ?_⟩; have HO46 := Aside0.mk (HO50.out.push hb46 HB50.out.size ho46); have HB46 := Aside0.mk (below_step HB50.out hb46); clear ho46 hb46 HO50 HB50; obtain ⟨A46, c46, rfl, hc46, _⟩ := HO46.out.reads (i := 0) rfl; have HD46 := Aside0.mk hc46; clear hc46)
        | ((with_reducible refine gate_builtin (b := .append) (xs := #[.tmp 43, .tmp 46]) rfl ?_); at_builtin; refine AO.appendRows (w0 := w) (base := w.heap.size) (L := _) 1 k26 acc q A46 q.length c46 rfl (.tmp 43) (.tmp 46) 22 26 _ 16 u7 rfl Try.underlying22 info26 rfl ?hs47 ?hb47 rfl rfl ?hC47 ?hK47 HO46.out rfl HB46.out HB46.out.size ?hl47 ?_; (case hs47 => decide); (case hb47 => decide); (case hC47 => exact (Kd.R_reads' (HO46.out.own (i := 0) rfl)).2.2); (case hK47 => exact k26_KM _ _); (case hl47 => have := HAl.out; have := HQl.out; have := HRl.out; omega); intro v47 w47 ho hb hs; have HO47 := Aside0.mk ho; have HB47 := Aside0.mk hb; clear ho hb hs HO46 HB46))
      go_roundg ((RL n).length - (i + 1))
      case measure => have := HK.out; omega
      case rel => exact ⟨i + 1, by omega, by go_num, ⟨by omega⟩, acc ++ q, ⟨knows_next n hn i hlt acc q (by have h := HQm.out; rw [HRn.out] at h; exact h) HA.out.1, by rw [List.length_append, HA.out.2, HQl.out, HRl.out, Nat.add_mul, Nat.one_mul]⟩, ⟨HO47.out.two (i := 1) (j := 2) (by decide) rfl rfl⟩, HB47⟩
    · have hil : i = (RL n).length := by omega
      have HF := Aside0.mk (show settle_Enough.f (acc.length + 400) a0 acc = some true by
        have h := HA.out.1
        rw [hil] at h
        rw [enough_eq a0 n HE.out hn acc (by have := HAl.out; omega) _ (Nat.le_refl _), knows_end n hn acc h])
      have hlen : decide ((acc.length : Int) < (n : Int) - 1) = false := by
        have h := HA.out.2
        have h2 := RL_many n (by omega)
        rw [hil] at h
        exact decide_eq_false (by omega)
      clear hil
      obtain ⟨A51, c51, e51, hc51, _⟩ := HO50.out.reads (i := 0) rfl
      subst e51
      have HD51 := Aside0.mk hc51
      have HM0' := HM0.out
      have HM1' := HM1.out
      clear hc51
      go_wp2_with (first
        | ((with_reducible refine gate_callee (f := 25) rfl ?_); refine goesL_ (some 54) rfl rfl Try.func25 (by kernel_rfl) rfl #[.int .i64 a0, .slice A51 acc.length c51] rfl (by (simp only [List.map_toArray, List.map_cons, List.map_nil, List.length_map]; first | done | rfl)) ?_; (refine (settle_Enough.calls _ a0 A51 c51 acc true _ (Kd.R_reads' (HO50.out.own (i := 0) rfl)).2.2 HD51.out HF.out).mono ?_); rintro e w54 ⟨rfl, hb54⟩; refine ⟨_, rfl, ?_⟩; have HO54 := Aside0.mk (HO50.out.below hb54); have HB54 := Aside0.mk (below_step HB50.out hb54); clear hb54 HO50 HB50)
        | ((with_reducible refine gate_dst (N := 63) rfl ?_); refine AO.lit (w0 := w) (base := w.heap.size) (L := _) k26 26 rfl 63 rfl (xs := ([] : List S26)) (inner := []) ?hr63 ?hp63 HO54.out HB54.out HB54.out.size ?hm63 ?_; (case hr63 => first | (go_simp; done) | (go_simp; rfl)); (case hp63 => exact Reps.none _ _); (case hm63 => decide); intro v63 w63 ho hb hs; have HO63 := Aside0.mk ho; have HB63 := Aside0.mk hb; clear ho hb hs HO54 HB54)
        | ((with_reducible refine gate_callee (f := 14) rfl ?_); refine goesL_ (some 65) rfl rfl Try.func14 (by kernel_rfl) rfl #[.int .i64 a0] rfl (by (simp only [List.map_toArray, List.map_cons, List.map_nil, List.length_map]; first | done | rfl)) ?_; (refine (settle_Pairs.calls 700 a0 (PL n) _ (pairs_eq a0 n h1n hn HE.out)).mono ?_); rintro e w65 ⟨v65, rfl, ho65, hb65⟩; refine ⟨_, rfl, ?_⟩; have HO65 := Aside0.mk (HO63.out.push hb65 HB63.out.size ho65); have HB65 := Aside0.mk (below_step HB63.out hb65); clear ho65 hb65 HO63 HB63; obtain ⟨A65, c65, rfl, hc65, _⟩ := HO65.out.reads (i := 0) rfl; have HD65 := Aside0.mk hc65; clear hc65))
      have HO70 := Aside0.mk (HO65.out.two (i := 1) (j := 0) (by decide) rfl rfl)
      have hp240 : ((PL n).length : Int) ≤ 240 := by have := PL_len n (by omega); omega
      go_loopg [11, 67] (PL n).length (fun k v11 v67 wr => ∃ i : Nat, i ≤ (PL n).length ∧ v67 = .int .i64 i ∧ Aside0 (k + i = (PL n).length) ∧ Aside0 (AO wr w.heap.size [⟨k26, 26, v11, ((PL n).take i).filter (fun p : S26 => decide (p.f1 ≠ 0))⟩, ⟨k26, 26, .slice A65 (PL n).length c65, PL n⟩]) ∧ Aside0 (Below w.heap.size w wr))
      case atStart => exact ⟨0, Nat.zero_le _, rfl, ⟨rfl⟩, HO70, HB65⟩
      case round =>
        obtain ⟨i, hi, rfl, HK2, HO71, HB71⟩ := hrel
        clear HO70 HB65 HO65
        by_cases hlt2 : i < (PL n).length
        · obtain ⟨ad, e0, hx0, hx1⟩ := at_T26 (Kd.R_reads' (HO71.out.own (i := 1) rfl)).2.2 (i : Int) (by omega) (by omega)
          cases e0
          simp only [Int.toNat_natCast] at hx0 hx1
          have HS := Aside0.mk (filter_next (PL n) i hlt2)
          obtain ⟨p, hp⟩ : ∃ p, p = rd_T26 (PL n) (i : Int) := ⟨_, rfl⟩
          rw [← hp] at hx0 hx1 HS
          clear hp
          by_cases hz : p.f1 = 0
          · have hb0 : (p.f1 != 0) = false := by rw [hz]; rfl
            have HZ := Aside0.mk hz
            clear hz
            go_wp2
            go_roundg ((PL n).length - (i + 1))
            case measure => have := HK2.out; omega
            case rel => exact ⟨i + 1, by omega, by go_num, ⟨by omega⟩, ⟨by rw [HS.out, if_neg (by rw [HZ.out]; decide)]; exact HO71.out.alloc _⟩, ⟨below_alloc HB71.out _⟩⟩
          · have hb0 : (p.f1 != 0) = true := by rw [bne_iff_ne]; exact hz
            have HZ := Aside0.mk hz
            have HFl := Aside0.mk (show (((PL n).take i).filter (fun p : S26 => decide (p.f1 ≠ 0))).length ≤ 240 from Nat.le_trans (List.length_filter_le _ _) (by rw [List.length_take]; omega))
            clear hz
            go_wp2_with ((with_reducible refine gate_builtin (b := .append) (xs := #[.tmp 74, .tmp 76]) rfl ?_); at_builtin; refine AO.append (w0 := w) (base := w.heap.size) (L := [⟨k26, 26, u11, ((PL n).take i).filter (fun p : S26 => decide (p.f1 ≠ 0))⟩, ⟨k26, 26, .slice (some ad) (PL n).length c65, PL n⟩]) 0 k26 (((PL n).take i).filter (fun p : S26 => decide (p.f1 ≠ 0))) p [.int .i64 p.f0, .int .i64 p.f1] rfl (.tmp 74) (.tmp 76) 22 26 _ 16 u11 rfl Try.underlying22 info26 rfl ?hs77 ?hb77 rfl ?hx77 ?hp77 ?h77 rfl ?HB77 ?hbase77 ?hl77 ?_; (case hs77 => decide); (case hb77 => decide); (case hx77 => first | (go_simp; done) | (go_simp; rfl)); (case hp77 => exact k26_mkM _ _ _ p); (case h77 => exact (HO71.out.alloc _)); (case HB77 => exact (below_alloc HB71.out _)); (case hbase77 => exact (below_alloc HB71.out _).size); (case hl77 => have := HFl.out; omega); intro v77 w77 ho hb hs; have HO77 := Aside0.mk ho; have HB77 := Aside0.mk hb; clear ho hb hs HO71 HB71)
            go_roundg ((PL n).length - (i + 1))
            case measure => have := HK2.out; omega
            case rel => exact ⟨i + 1, by omega, by go_num, ⟨by omega⟩, ⟨by rw [HS.out, if_pos (decide_eq_true HZ.out)]; exact HO77.out⟩, HB77⟩
        · have HOd : Aside0 (AO wr w.heap.size [⟨k26, 26, u11, deaf n⟩, ⟨k26, 26, .slice A65 (PL n).length c65, PL n⟩]) := ⟨by have h := HO71.out; rw [List.take_of_length_le (by omega)] at h; exact h⟩
          obtain ⟨A80, c80, e80, hc80, _⟩ := HOd.out.reads (i := 0) rfl
          subst e80
          have HD80 := Aside0.mk hc80
          have HO80 := HOd
          have HB80 := HB71
          have HG := Aside0.mk (show settle_Enough.f ((deaf n).length + 400) a0 (deaf n) = some (decide (n = 1)) by
            have hd : (deaf n).length ≤ 240 := Nat.le_trans (List.length_filter_le _ _) (PL_len n (by omega))
            rw [enough_eq a0 n HE.out hn (deaf n) (by omega) _ (Nat.le_refl _), deaf_not n (by omega) h1n])
          clear hc80 HO71 HB71 HOd
          by_cases hn1 : n = 1
          · have hz1 : ((n : Int) == 1) = true := by rw [hn1]; rfl
            rw [decide_eq_true hn1] at HG
            clear hn1
            go_wp2_with ((with_reducible refine gate_callee (f := 25) rfl ?_); refine goesL_ (some 81) rfl rfl Try.func25 (by kernel_rfl) rfl #[.int .i64 a0, .slice A80 (deaf n).length c80] rfl (by (simp only [List.map_toArray, List.map_cons, List.map_nil, List.length_map]; first | done | rfl)) ?_; (refine (settle_Enough.calls _ a0 A80 c80 (deaf n) true _ (Kd.R_reads' (HO80.out.own (i := 0) rfl)).2.2 HD80.out HG.out).mono ?_); rintro e w81 ⟨rfl, hb81⟩; refine ⟨_, rfl, ?_⟩; have HO81 := Aside0.mk (HO80.out.below hb81); have HB81 := Aside0.mk (below_step HB80.out hb81); clear hb81 HO80 HB80)
            go_ret
            exact ⟨rfl, HB81.out⟩
          · have hz1 : ((n : Int) == 1) = false := by rw [beq_eq_false_iff_ne]; omega
            rw [decide_eq_false hn1] at HG
            clear hn1
            go_wp2_with ((with_reducible refine gate_callee (f := 25) rfl ?_); refine goesL_ (some 81) rfl rfl Try.func25 (by kernel_rfl) rfl #[.int .i64 a0, .slice A80 (deaf n).length c80] rfl (by (simp only [List.map_toArray, List.map_cons, List.map_nil, List.length_map]; first | done | rfl)) ?_; (refine (settle_Enough.calls _ a0 A80 c80 (deaf n) false _ (Kd.R_reads' (HO80.out.own (i := 0) rfl)).2.2 HD80.out HG.out).mono ?_); rintro e w81 ⟨rfl, hb81⟩; refine ⟨_, rfl, ?_⟩; have HO81 := Aside0.mk (HO80.out.below hb81); have HB81 := Aside0.mk (below_step HB80.out hb81); clear hb81 HO80 HB80)
            go_ret
            exact ⟨rfl, HB81.out⟩
end Go.Proofs.Ythpdemfehkoniaa.PSet
