/- SettleOps: the walk of the statement, and what the comparisons come to. Condition: at most 1048576 pairs. -/
import Derived.Test.YthpdemfehkoniaaMySettleOpsA
namespace Go.Proofs.Ythpdemfehkoniaa.PSettleOps
open Go.RowKit Go.Proofs.YthpdemfehkoniaaW.PrintWords Go.Proofs.YthpdemfehkoniaaW.PrintLast Go.Proofs.YthpdemfehkoniaaW.PrintMore Go.Proofs.YthpdemfehkoniaaW.AO
set_option linter.unusedVariables false
set_option linter.unusedSimpArgs false

theorem sameOps_l0 (l : List S29) (hl : l.length ≤ 1048576) : ∀ (d k : Nat) (i : Nat), l.length - i = d → i ≤ l.length → d < k → barrowlaw26_sameOps.l0 k l l (l.length : Int) (i : Int) = some true := by
  intro d
  induction d with
  | zero =>
    intro k i h1 h2 h3
    obtain ⟨k, rfl⟩ : ∃ m, k = m + 1 := ⟨k - 1, by omega⟩
    simp only [barrowlaw26_sameOps.l0]; rw [if_neg (by omega)]
  | succ d ih =>
    intro k i h1 h2 h3
    obtain ⟨k, rfl⟩ : ∃ m, k = m + 1 := ⟨k - 1, by omega⟩
    simp only [barrowlaw26_sameOps.l0]
    rw [if_pos (by omega), if_pos (by omega), if_pos (by omega), if_pos (by omega)]
    simp only [beq_self_eq_true, Bool.not_true, Bool.or_self, Bool.false_eq_true, if_false]
    rw [show wrap64 ((i : Int) + 1) = ((i + 1 : Nat) : Int) by unfold wrap64; omega]
    exact ih k (i + 1) (by omega) (by omega) (by omega)
theorem sameOps_self (l : List S29) (hl : l.length ≤ 1048576) : barrowlaw26_sameOps.f (l.length + 1) l l = some true := by
  unfold barrowlaw26_sameOps.f
  rw [if_pos rfl]
  exact sameOps_l0 l hl l.length _ 0 (by omega) (by omega) (by omega)
theorem samePair_l0 (l : List S26) (hl : l.length ≤ 1048576) : ∀ (d k : Nat) (i : Nat), l.length - i = d → i ≤ l.length → d < k → barrowlaw26_samePair.l0 k l l (l.length : Int) (i : Int) = some true := by
  intro d
  induction d with
  | zero =>
    intro k i h1 h2 h3
    obtain ⟨k, rfl⟩ : ∃ m, k = m + 1 := ⟨k - 1, by omega⟩
    simp only [barrowlaw26_samePair.l0]; rw [if_neg (by omega)]
  | succ d ih =>
    intro k i h1 h2 h3
    obtain ⟨k, rfl⟩ : ∃ m, k = m + 1 := ⟨k - 1, by omega⟩
    simp only [barrowlaw26_samePair.l0]
    rw [if_pos (by omega), if_pos (by omega), if_pos (by omega), if_pos (by omega)]
    simp only [beq_self_eq_true, Bool.not_true, Bool.or_self, Bool.false_eq_true, if_false]
    rw [show wrap64 ((i : Int) + 1) = ((i + 1 : Nat) : Int) by unfold wrap64; omega]
    exact ih k (i + 1) (by omega) (by omega) (by omega)
theorem samePair_self (l : List S26) (hl : l.length ≤ 1048576) : barrowlaw26_samePair.f (l.length + 1) l l = some true := by
  unfold barrowlaw26_samePair.f
  rw [if_pos rfl]
  exact samePair_l0 l hl l.length _ 0 (by omega) (by omega) (by omega)
theorem copyPairs_self (l : List S26) (hl : l.length ≤ 1048576) : barrowlaw26_copyPairs.f l = some l := by
  unfold barrowlaw26_copyPairs.f
  simp only [Option.bind_some, List.length_nil, List.nil_append]
  rw [if_pos (by omega)]

set_option maxHeartbeats 8000000 in
set_option maxRecDepth 100000 in
theorem SettleOps_t (A0 : Option Addr) (c0 : Nat) (l0 : List S26) (w : World) (hr0 : Kd.C k26 w A0 l0.length l0) (hc0 : l0.length ≤ c0) (hl : l0.length ≤ 1048576) :
    Calls Try.prog 3 #[.slice A0 l0.length c0, .bool true] w fun e w' => e = .returned (.bool true) ∧ Below w.heap.size w w' := by
  have hu26 := Try.underlying26
  have HR := Aside0.mk hr0
  have HC := Aside0.mk hc0
  have HL := Aside0.mk hl
  clear hr0 hc0 hl
  have hlen : (l0.length : Int) ≤ 1048576 := by have := HL.out; omega
  go_enter Try.func3, Try.ntmps3
  go_wp2_with (first
    | ((with_reducible refine gate_dst (N := 12) rfl ?_); go_must (refine AO.lit (w0 := w) (base := w.heap.size) (L := []) k26 26 rfl 12 rfl (xs := [(⟨7, 7⟩ : S26)]) (inner := [.int .i64 7, .int .i64 7]) ?hr ?hp (AO.nil _ _) (Below.refl _ _) (Nat.le_refl _) ?hm ?_); (case hr => first | (go_simp; done) | (go_simp; rfl)); (case hp => exact Reps.snoc (Reps.none _ _) (k26_mkM _ _ _ (⟨7, 7⟩ : S26)) rfl); (case hm => decide); intro v1 w1 ho hb hs; obtain ⟨A1, c1, rfl, hc1, hC1⟩ := ho.reads (i := 0) rfl; have HC1 := Aside0.mk hC1; have HD1 := Aside0.mk hc1; have HO1 := Aside0.mk ho; have HB1 := Aside0.mk hb; have HS1 := Aside0.mk hs; clear ho hb hs hc1 hC1)
    | ((with_reducible refine gate_callee (f := 10) rfl ?_); go_must (refine goesL_ (some 13) rfl rfl Try.func10 (by kernel_rfl) rfl #[.slice A1 [(⟨7, 7⟩ : S26)].length c1, .bool true] rfl ?ha ?_); (case ha => (simp only [List.map_toArray, List.map_cons, List.map_nil, List.length_map]; first | done | rfl)); (go_must (refine (settle_Ops_t A1 c1 [(⟨7, 7⟩ : S26)] _ HC1.out HD1.out (by decide)).mono ?_)); rintro e w2 ⟨v2, rfl, ho2, hb2⟩; refine ⟨_, rfl, ?_⟩; have HO2 := Aside0.mk (HO1.out.push hb2 HB1.out.size ho2); have HB2 := Aside0.mk (below_step HB1.out hb2); clear ho2 hb2 HO1 HB1 HS1; obtain ⟨A2, c2, rfl, hc2, hC2⟩ := HO2.out.reads (i := 0) rfl; have HC2 := Aside0.mk hC2; have HD2 := Aside0.mk hc2; clear hc2 hC2)
    | ((with_reducible refine gate_dst (N := 16) rfl ?_); go_must (refine AO.lit (w0 := w) (base := w.heap.size) (L := _) k29 29 rfl 16 rfl (xs := [(⟨9, 7, 0, 7, ⟨#[]⟩, 0, 0⟩ : S29)]) (inner := [.int .i64 9, .int .i64 7, .int .i64 0, .int .i64 7, .string ⟨#[]⟩, .int .i64 0, .int .i64 0]) ?hr ?hp (HO2.out) HB2.out HB2.out.size ?hm ?_); (case hr => first | (go_simp; done) | (go_simp; rfl)); (case hp => exact Reps.snoc (Reps.none _ _) (k29_mkM _ _ _ (⟨9, 7, 0, 7, ⟨#[]⟩, 0, 0⟩ : S29)) rfl); (case hm => decide); intro v3 w3 ho hb hs; obtain ⟨A3, c3, rfl, hc3, hC3⟩ := ho.reads (i := 0) rfl; have HC3 := Aside0.mk hC3; have HD3 := Aside0.mk hc3; have HC2' := Aside0.mk (ho.reads (i := 1) rfl); have HB3 := Aside0.mk hb; clear ho hb hs hc3 hC3 HO2 HB2 HC2)
    | ((with_reducible refine gate_callee (f := 11) rfl ?_); go_must (refine goesL_ (some 17) rfl rfl Try.func11 (by kernel_rfl) rfl #[.slice A2 [(⟨9, 7, 0, 7, ⟨#[]⟩, 0, 0⟩ : S29)].length c2, .slice A3 [(⟨9, 7, 0, 7, ⟨#[]⟩, 0, 0⟩ : S29)].length c3] rfl ?ha ?_); (case ha => (simp only [List.map_toArray, List.map_cons, List.map_nil, List.length_map]; first | done | rfl)); obtain ⟨_, _, hv_, _, hC2⟩ := HC2'.out; obtain ⟨rfl, _, rfl⟩ : A2 = _ ∧ True ∧ c2 = _ := (by injection hv_ with q1 q2 q3; exact ⟨q1, trivial, q3⟩); (go_must (refine (barrowlaw26_sameOps.calls 3 _ _ [(⟨9, 7, 0, 7, ⟨#[]⟩, 0, 0⟩ : S29)] _ _ [(⟨9, 7, 0, 7, ⟨#[]⟩, 0, 0⟩ : S29)] true _ hC2 HD2.out HC3.out HD3.out (by decide +kernel)).mono ?_)); rintro e w4 ⟨rfl, ⟨nd, rfl⟩⟩; refine ⟨_, rfl, ?_⟩; have HB4 := Aside0.mk (pw_below_drewN HB3.out nd); clear hC2 hv_ HC2' HC3 HD3 HD2 HB3)
    | ((with_reducible refine gate_dst (N := 20) rfl ?_); go_must (refine AO.lit (w0 := w) (base := w.heap.size) (L := []) k29 29 rfl 20 rfl (xs := ([] : List S29)) (inner := []) ?hr ?hp (AO.nil _ _) HB4.out HB4.out.size ?hm ?_); (case hr => first | (go_simp; done) | (go_simp; rfl)); (case hp => exact Reps.none _ _); (case hm => decide); intro v5 w5 ho hb hs; have HO5 := Aside0.mk ho; have HB5 := Aside0.mk hb; clear ho hb hs HB4))
  go_loopg [7, 23] l0.length (fun k v7 v23 wr => ∃ i : Nat, i ≤ l0.length ∧ v23 = .int .i64 i ∧ Aside0 (k + i = l0.length) ∧ Aside0 (AO wr w.heap.size [⟨k29, 29, v7, (l0.take i).map (opOf true)⟩]) ∧ Aside0 (Below w.heap.size w wr))
  case atStart => exact ⟨0, Nat.zero_le _, rfl, ⟨rfl⟩, HO5, HB5⟩
  case round =>
    obtain ⟨i, hi, rfl, HK, HOr, HBr⟩ := hrel
    clear HO5 HB5
    by_cases hlt : i < l0.length
    · obtain ⟨ad, e0, hx0, hx1⟩ := at_T26 HR.out (i : Int) (by omega) (by omega)
      cases e0
      replace hx0 := (HBr.out.cell (World.block_lt_of_cell? w _ hx0)).trans hx0
      replace hx1 := (HBr.out.cell (World.block_lt_of_cell? w _ hx1)).trans hx1
      simp only [Int.toNat_natCast] at hx0 hx1
      go_wp2_with ((with_reducible refine gate_builtin (b := .append) (xs := #[.tmp 27, .tmp 34]) rfl ?_); at_builtin; go_must (refine AO.append (w0 := w) (base := w.heap.size) (L := [⟨k29, 29, u7, (l0.take i).map (opOf true)⟩]) 0 k29 ((l0.take i).map (opOf true)) (opOf true (rd_T26 l0 (i : Int))) [.int .i64 9, .int .i64 (rd_T26 l0 (i : Int)).f0, .int .i64 0, .int .i64 (rd_T26 l0 (i : Int)).f1, .string ⟨#[]⟩, .int .i64 0, .int .i64 0] rfl (.tmp 27) (.tmp 34) 23 29 _ 64 u7 rfl Try.underlying23 info29 rfl ?hs0 ?hb0 rfl ?hx ?hp ?h rfl ?HB ?hbase ?hl ?k); (case hs0 => decide); (case hb0 => decide); (case hx => first | (go_simp; done) | (go_simp; rfl)); (case hp => exact k29_mkM _ _ _ (opOf true _)); (case h => exact (HOr.out.alloc _)); (case HB => exact (below_alloc HBr.out _)); (case hbase => exact (below_alloc HBr.out _).size); (case hl => have := HL.out; have := List.length_take_le i l0; rw [List.length_map]; omega); intro v2 w2 ho hb hs; have HO := Aside0.mk ho; have HB := Aside0.mk hb; clear ho hb hs)
      go_roundg (l0.length - (i + 1))
      case measure => have := HK.out; omega
      case rel => exact ⟨i + 1, by omega, by go_num, ⟨by omega⟩, ⟨by have h := HO.out; rw [← ops_snoc true l0 i hlt]; exact h⟩, HB⟩
    · have HO6 : Aside0 (AO wr w.heap.size [⟨k29, 29, u7, l0.map (opOf true)⟩]) := ⟨by have h := HOr.out; rw [List.take_of_length_le (by omega)] at h; exact h⟩
      clear HOr
      obtain ⟨A6, c6, e6, hc6, hC6⟩ := HO6.out.reads (i := 0) rfl
      subst e6
      have HC6 := Aside0.mk hC6
      have HD6 := Aside0.mk hc6
      clear hc6 hC6
      go_wp2_with (first
        | ((with_reducible refine gate_callee (f := 12) rfl ?_); go_must (refine goesL_ (some 38) rfl rfl Try.func12 (by kernel_rfl) rfl #[.slice A0 l0.length c0] rfl ?ha ?_); (case ha => (simp only [List.map_toArray, List.map_cons, List.map_nil, List.length_map]; first | done | rfl)); (with_reducible refine (barrowlaw26_copyPairs.calls A0 c0 l0 l0 _ (Kd.C_below HR.out HBr.out) HC.out (copyPairs_self l0 HL.out)).mono ?_); rintro e w7 ⟨v7, rfl, ho7, hb7⟩; refine ⟨_, rfl, ?_⟩; have HO7 := Aside0.mk (HO6.out.push hb7 HBr.out.size ho7); have HB7 := Aside0.mk (below_step HBr.out hb7); clear ho7 hb7 HO6 HBr HC6; obtain ⟨A7, c7, rfl, hc7, hC7⟩ := HO7.out.reads (i := 0) rfl; have HC7 := Aside0.mk hC7; have HD7 := Aside0.mk hc7; clear hc7 hC7)
        | ((with_reducible refine gate_callee (f := 10) rfl ?_); go_must (refine goesL_ (some 41) rfl rfl Try.func10 (by kernel_rfl) rfl #[.slice A7 l0.length c7, .bool true] rfl ?ha ?_); (case ha => (simp only [List.map_toArray, List.map_cons, List.map_nil, List.length_map]; first | done | rfl)); (go_must (refine (settle_Ops_t A7 c7 l0 _ HC7.out HD7.out HL.out).mono ?_)); rintro e w8 ⟨v8, rfl, ho8, hb8⟩; refine ⟨_, rfl, ?_⟩; have HO8 := Aside0.mk (HO7.out.push hb8 HB7.out.size ho8); have HB8 := Aside0.mk (below_step HB7.out hb8); clear ho8 hb8 HO7 HB7 HC7; obtain ⟨A8, c8, rfl, hc8, hC8⟩ := HO8.out.reads (i := 0) rfl; have HC8 := Aside0.mk hC8; have HD8 := Aside0.mk hc8; clear hc8 hC8)
        | ((with_reducible refine gate_callee (f := 11) rfl ?_); go_must (refine goesL_ (some 44) rfl rfl Try.func11 (by kernel_rfl) rfl #[.slice A8 (l0.map (opOf true)).length c8, .slice A6 (l0.map (opOf true)).length c6] rfl ?ha ?_); (case ha => (simp only [List.map_toArray, List.map_cons, List.map_nil, List.length_map]; first | done | rfl)); (go_must (refine (barrowlaw26_sameOps.calls ((l0.map (opOf true)).length + 1) A8 c8 _ A6 c6 _ true _ HC8.out HD8.out (Kd.R_reads' (HO8.out.own (i := 2) rfl)).2.2 HD6.out (sameOps_self _ (by rw [List.length_map]; exact HL.out))).mono ?_)); rintro e w9 ⟨rfl, ⟨nd, rfl⟩⟩; refine ⟨_, rfl, ?_⟩; have HO9 := Aside0.mk (HO8.out.drewN nd); have HB9 := Aside0.mk (pw_below_drewN HB8.out nd); clear HO8 HC8)
        | (go_at_call 13; (go_must (refine (barrowlaw26_samePair.calls (l0.length + 1) A7 c7 l0 A0 c0 l0 true _ (Kd.R_reads' (HO9.out.own (i := 1) rfl)).2.2 HD7.out (Kd.C_below HR.out HB9.out) HC.out (samePair_self _ HL.out)).mono ?_)); rintro e w10 ⟨rfl, ⟨nd10, rfl⟩⟩))
      go_ret
      exact ⟨rfl, pw_below_drewN HB8.out _⟩

set_option maxHeartbeats 8000000 in
set_option maxRecDepth 100000 in
theorem SettleOps_f (A0 : Option Addr) (c0 : Nat) (l0 : List S26) (w : World) (hr0 : Kd.C k26 w A0 l0.length l0) (hc0 : l0.length ≤ c0) (hl : l0.length ≤ 1048576) :
    Calls Try.prog 3 #[.slice A0 l0.length c0, .bool false] w fun e w' => e = .returned (.bool true) ∧ Below w.heap.size w w' := by
  have hu26 := Try.underlying26
  have HR := Aside0.mk hr0
  have HC := Aside0.mk hc0
  have HL := Aside0.mk hl
  clear hr0 hc0 hl
  have hlen : (l0.length : Int) ≤ 1048576 := by have := HL.out; omega
  go_enter Try.func3, Try.ntmps3
  go_wp2_with (first
    | ((with_reducible refine gate_dst (N := 12) rfl ?_); go_must (refine AO.lit (w0 := w) (base := w.heap.size) (L := []) k26 26 rfl 12 rfl (xs := [(⟨7, 7⟩ : S26)]) (inner := [.int .i64 7, .int .i64 7]) ?hr ?hp (AO.nil _ _) (Below.refl _ _) (Nat.le_refl _) ?hm ?_); (case hr => first | (go_simp; done) | (go_simp; rfl)); (case hp => exact Reps.snoc (Reps.none _ _) (k26_mkM _ _ _ (⟨7, 7⟩ : S26)) rfl); (case hm => decide); intro v1 w1 ho hb hs; obtain ⟨A1, c1, rfl, hc1, hC1⟩ := ho.reads (i := 0) rfl; have HC1 := Aside0.mk hC1; have HD1 := Aside0.mk hc1; have HO1 := Aside0.mk ho; have HB1 := Aside0.mk hb; have HS1 := Aside0.mk hs; clear ho hb hs hc1 hC1)
    | ((with_reducible refine gate_callee (f := 10) rfl ?_); go_must (refine goesL_ (some 13) rfl rfl Try.func10 (by kernel_rfl) rfl #[.slice A1 [(⟨7, 7⟩ : S26)].length c1, .bool true] rfl ?ha ?_); (case ha => (simp only [List.map_toArray, List.map_cons, List.map_nil, List.length_map]; first | done | rfl)); (go_must (refine (settle_Ops_t A1 c1 [(⟨7, 7⟩ : S26)] _ HC1.out HD1.out (by decide)).mono ?_)); rintro e w2 ⟨v2, rfl, ho2, hb2⟩; refine ⟨_, rfl, ?_⟩; have HO2 := Aside0.mk (HO1.out.push hb2 HB1.out.size ho2); have HB2 := Aside0.mk (below_step HB1.out hb2); clear ho2 hb2 HO1 HB1 HS1; obtain ⟨A2, c2, rfl, hc2, hC2⟩ := HO2.out.reads (i := 0) rfl; have HC2 := Aside0.mk hC2; have HD2 := Aside0.mk hc2; clear hc2 hC2)
    | ((with_reducible refine gate_dst (N := 16) rfl ?_); go_must (refine AO.lit (w0 := w) (base := w.heap.size) (L := _) k29 29 rfl 16 rfl (xs := [(⟨9, 7, 0, 7, ⟨#[]⟩, 0, 0⟩ : S29)]) (inner := [.int .i64 9, .int .i64 7, .int .i64 0, .int .i64 7, .string ⟨#[]⟩, .int .i64 0, .int .i64 0]) ?hr ?hp (HO2.out) HB2.out HB2.out.size ?hm ?_); (case hr => first | (go_simp; done) | (go_simp; rfl)); (case hp => exact Reps.snoc (Reps.none _ _) (k29_mkM _ _ _ (⟨9, 7, 0, 7, ⟨#[]⟩, 0, 0⟩ : S29)) rfl); (case hm => decide); intro v3 w3 ho hb hs; obtain ⟨A3, c3, rfl, hc3, hC3⟩ := ho.reads (i := 0) rfl; have HC3 := Aside0.mk hC3; have HD3 := Aside0.mk hc3; have HC2' := Aside0.mk (ho.reads (i := 1) rfl); have HB3 := Aside0.mk hb; clear ho hb hs hc3 hC3 HO2 HB2 HC2)
    | ((with_reducible refine gate_callee (f := 11) rfl ?_); go_must (refine goesL_ (some 17) rfl rfl Try.func11 (by kernel_rfl) rfl #[.slice A2 [(⟨9, 7, 0, 7, ⟨#[]⟩, 0, 0⟩ : S29)].length c2, .slice A3 [(⟨9, 7, 0, 7, ⟨#[]⟩, 0, 0⟩ : S29)].length c3] rfl ?ha ?_); (case ha => (simp only [List.map_toArray, List.map_cons, List.map_nil, List.length_map]; first | done | rfl)); obtain ⟨_, _, hv_, _, hC2⟩ := HC2'.out; obtain ⟨rfl, _, rfl⟩ : A2 = _ ∧ True ∧ c2 = _ := (by injection hv_ with q1 q2 q3; exact ⟨q1, trivial, q3⟩); (go_must (refine (barrowlaw26_sameOps.calls 3 _ _ [(⟨9, 7, 0, 7, ⟨#[]⟩, 0, 0⟩ : S29)] _ _ [(⟨9, 7, 0, 7, ⟨#[]⟩, 0, 0⟩ : S29)] true _ hC2 HD2.out HC3.out HD3.out (by decide +kernel)).mono ?_)); rintro e w4 ⟨rfl, ⟨nd, rfl⟩⟩; refine ⟨_, rfl, ?_⟩; have HB4 := Aside0.mk (pw_below_drewN HB3.out nd); clear hC2 hv_ HC2' HC3 HD3 HD2 HB3)
    | ((with_reducible refine gate_dst (N := 20) rfl ?_); go_must (refine AO.lit (w0 := w) (base := w.heap.size) (L := []) k29 29 rfl 20 rfl (xs := ([] : List S29)) (inner := []) ?hr ?hp (AO.nil _ _) HB4.out HB4.out.size ?hm ?_); (case hr => first | (go_simp; done) | (go_simp; rfl)); (case hp => exact Reps.none _ _); (case hm => decide); intro v5 w5 ho hb hs; have HO5 := Aside0.mk ho; have HB5 := Aside0.mk hb; clear ho hb hs HB4))
  go_loopg [7, 23] l0.length (fun k v7 v23 wr => ∃ i : Nat, i ≤ l0.length ∧ v23 = .int .i64 i ∧ Aside0 (k + i = l0.length) ∧ Aside0 (AO wr w.heap.size [⟨k29, 29, v7, (l0.take i).map (opOf false)⟩]) ∧ Aside0 (Below w.heap.size w wr))
  case atStart => exact ⟨0, Nat.zero_le _, rfl, ⟨rfl⟩, HO5, HB5⟩
  case round =>
    obtain ⟨i, hi, rfl, HK, HOr, HBr⟩ := hrel
    clear HO5 HB5
    by_cases hlt : i < l0.length
    · obtain ⟨ad, e0, hx0, hx1⟩ := at_T26 HR.out (i : Int) (by omega) (by omega)
      cases e0
      replace hx0 := (HBr.out.cell (World.block_lt_of_cell? w _ hx0)).trans hx0
      replace hx1 := (HBr.out.cell (World.block_lt_of_cell? w _ hx1)).trans hx1
      simp only [Int.toNat_natCast] at hx0 hx1
      go_wp2_with ((with_reducible refine gate_builtin (b := .append) (xs := #[.tmp 27, .tmp 34]) rfl ?_); at_builtin; go_must (refine AO.append (w0 := w) (base := w.heap.size) (L := [⟨k29, 29, u7, (l0.take i).map (opOf false)⟩]) 0 k29 ((l0.take i).map (opOf false)) (opOf false (rd_T26 l0 (i : Int))) [.int .i64 8, .int .i64 (rd_T26 l0 (i : Int)).f0, .int .i64 0, .int .i64 (rd_T26 l0 (i : Int)).f1, .string ⟨#[]⟩, .int .i64 0, .int .i64 0] rfl (.tmp 27) (.tmp 34) 23 29 _ 64 u7 rfl Try.underlying23 info29 rfl ?hs0 ?hb0 rfl ?hx ?hp ?h rfl ?HB ?hbase ?hl ?k); (case hs0 => decide); (case hb0 => decide); (case hx => first | (go_simp; done) | (go_simp; rfl)); (case hp => exact k29_mkM _ _ _ (opOf false _)); (case h => exact (HOr.out.alloc _)); (case HB => exact (below_alloc HBr.out _)); (case hbase => exact (below_alloc HBr.out _).size); (case hl => have := HL.out; have := List.length_take_le i l0; rw [List.length_map]; omega); intro v2 w2 ho hb hs; have HO := Aside0.mk ho; have HB := Aside0.mk hb; clear ho hb hs)
      go_roundg (l0.length - (i + 1))
      case measure => have := HK.out; omega
      case rel => exact ⟨i + 1, by omega, by go_num, ⟨by omega⟩, ⟨by have h := HO.out; rw [← ops_snoc false l0 i hlt]; exact h⟩, HB⟩
    · have HO6 : Aside0 (AO wr w.heap.size [⟨k29, 29, u7, l0.map (opOf false)⟩]) := ⟨by have h := HOr.out; rw [List.take_of_length_le (by omega)] at h; exact h⟩
      clear HOr
      obtain ⟨A6, c6, e6, hc6, hC6⟩ := HO6.out.reads (i := 0) rfl
      subst e6
      have HC6 := Aside0.mk hC6
      have HD6 := Aside0.mk hc6
      clear hc6 hC6
      go_wp2_with (first
        | ((with_reducible refine gate_callee (f := 12) rfl ?_); go_must (refine goesL_ (some 38) rfl rfl Try.func12 (by kernel_rfl) rfl #[.slice A0 l0.length c0] rfl ?ha ?_); (case ha => (simp only [List.map_toArray, List.map_cons, List.map_nil, List.length_map]; first | done | rfl)); (with_reducible refine (barrowlaw26_copyPairs.calls A0 c0 l0 l0 _ (Kd.C_below HR.out HBr.out) HC.out (copyPairs_self l0 HL.out)).mono ?_); rintro e w7 ⟨v7, rfl, ho7, hb7⟩; refine ⟨_, rfl, ?_⟩; have HO7 := Aside0.mk (HO6.out.push hb7 HBr.out.size ho7); have HB7 := Aside0.mk (below_step HBr.out hb7); clear ho7 hb7 HO6 HBr HC6; obtain ⟨A7, c7, rfl, hc7, hC7⟩ := HO7.out.reads (i := 0) rfl; have HC7 := Aside0.mk hC7; have HD7 := Aside0.mk hc7; clear hc7 hC7)
        | ((with_reducible refine gate_callee (f := 10) rfl ?_); go_must (refine goesL_ (some 41) rfl rfl Try.func10 (by kernel_rfl) rfl #[.slice A7 l0.length c7, .bool false] rfl ?ha ?_); (case ha => (simp only [List.map_toArray, List.map_cons, List.map_nil, List.length_map]; first | done | rfl)); (go_must (refine (settle_Ops_f A7 c7 l0 _ HC7.out HD7.out HL.out).mono ?_)); rintro e w8 ⟨v8, rfl, ho8, hb8⟩; refine ⟨_, rfl, ?_⟩; have HO8 := Aside0.mk (HO7.out.push hb8 HB7.out.size ho8); have HB8 := Aside0.mk (below_step HB7.out hb8); clear ho8 hb8 HO7 HB7 HC7; obtain ⟨A8, c8, rfl, hc8, hC8⟩ := HO8.out.reads (i := 0) rfl; have HC8 := Aside0.mk hC8; have HD8 := Aside0.mk hc8; clear hc8 hC8)
        | ((with_reducible refine gate_callee (f := 11) rfl ?_); go_must (refine goesL_ (some 44) rfl rfl Try.func11 (by kernel_rfl) rfl #[.slice A8 (l0.map (opOf false)).length c8, .slice A6 (l0.map (opOf false)).length c6] rfl ?ha ?_); (case ha => (simp only [List.map_toArray, List.map_cons, List.map_nil, List.length_map]; first | done | rfl)); (go_must (refine (barrowlaw26_sameOps.calls ((l0.map (opOf false)).length + 1) A8 c8 _ A6 c6 _ true _ HC8.out HD8.out (Kd.R_reads' (HO8.out.own (i := 2) rfl)).2.2 HD6.out (sameOps_self _ (by rw [List.length_map]; exact HL.out))).mono ?_)); rintro e w9 ⟨rfl, ⟨nd, rfl⟩⟩; refine ⟨_, rfl, ?_⟩; have HO9 := Aside0.mk (HO8.out.drewN nd); have HB9 := Aside0.mk (pw_below_drewN HB8.out nd); clear HO8 HC8)
        | (go_at_call 13; (go_must (refine (barrowlaw26_samePair.calls (l0.length + 1) A7 c7 l0 A0 c0 l0 true _ (Kd.R_reads' (HO9.out.own (i := 1) rfl)).2.2 HD7.out (Kd.C_below HR.out HB9.out) HC.out (samePair_self _ HL.out)).mono ?_)); rintro e w10 ⟨rfl, ⟨nd10, rfl⟩⟩))
      go_ret
      exact ⟨rfl, pw_below_drewN HB8.out _⟩
end Go.Proofs.Ythpdemfehkoniaa.PSettleOps
