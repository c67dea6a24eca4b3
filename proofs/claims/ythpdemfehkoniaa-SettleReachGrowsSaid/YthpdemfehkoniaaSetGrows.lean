/- SettleReachGrows: the walk of the statement. Condition: the pairs take at most 140737488351232 bytes. -/
import Derived.Test.YthpdemfehkoniaaSetGrPure
namespace Go.Proofs.Ythpdemfehkoniaa.PSet
open Go.RowKit Go.Proofs.YthpdemfehkoniaaW.PrintWords Go.Proofs.YthpdemfehkoniaaW.PrintLast Go.Proofs.YthpdemfehkoniaaW.PrintMore Go.Proofs.YthpdemfehkoniaaW.AO
attribute [local go_sem] max2_int min2_int max_two min_two
set_option linter.unusedVariables false
set_option linter.unusedSimpArgs false
theorem gr4 : settle_Reach.f 500 4 ([] : List S26) = some [[0], [1], [2], [3]] := by decide +kernel
theorem gr0 : settle_Reach.f 500 0 ([] : List S26) = some [[0]] := by decide +kernel
theorem k26_KM' (w : World) (base : Nat) (x : S26) (cs : List Value) (h : k26.K w x cs) : k26.M w base (fun _ => False) x cs := by
  obtain rfl := k26_open h
  exact k26_mkM _ _ _ x
theorem box2 {W : World} {base : Nat} {L : List Ob} {g i : Nat} {p : S26} (h : AO W base L) (hi : L[i]? = some ⟨k26, 26, .slice (some ⟨g, 0, none⟩) 1 1, [p]⟩) : W.cell? ⟨g, 0, none⟩ = some (.int .i64 p.f0) ∧ W.cell? ⟨g, 1, none⟩ = some (.int .i64 p.f1) := by
  obtain ⟨c, _, hM, hcc, _⟩ := h.elem hi z26 0 (by omega) (by omega)
  obtain rfl := k26_openM hM
  exact ⟨by simpa using hcc 0 _ rfl, by simpa using hcc 1 _ rfl⟩
def grT5 : Bool × List (List Nat × List Nat) := (true, [([], []), ([], []), ([1], [1]), ([], []), ([3], [3]), ([2, 4, 2], [2, 4]), ([0, 5, 5], [0, 5]), ([6, 6, 0, 1, 2, 3, 4, 5, 6], [6])])
def grB5 : List Nat := [0, 0, 2, 0, 8, 30, 63, 127]
theorem grtab5 : rtab .any (opsOf Try.f7 5) = grT5 := by kernel_rfl
theorem grbits5 : waitsOk grT5.2 grB5 = true := by kernel_rfl
set_option maxHeartbeats 16000000 in
set_option maxRecDepth 100000 in
theorem SettleReachGrows_calls (a0 : Int) (n : Nat) (h1n : 1 ≤ n) (hn : n ≤ 16) (hc : settle_clamp.f a0 = some (n : Int)) (A1 : Option Addr) (c1 : Nat) (l1 : List S26) (p : S26) (w : World)
    (hr1 : Kd.C k26 w A1 l1.length l1) (hc1 : l1.length ≤ c1) (hl1 : l1.length * 16 ≤ 140737488351232) :
    Calls Try.prog 7 #[.int .i64 a0, .slice A1 l1.length c1, .agg #[.int .i64 p.f0, .int .i64 p.f1]] w fun e w' => e = .returned (.bool true) ∧ Below w.heap.size w w' := by
  have HR1 := Aside0.mk hr1
  have HC1 := Aside0.mk hc1
  have HE := Aside0.mk hc
  have hl' : l1.length < 8796093022000 := by omega
  have HL' := Aside0.mk hl'
  have hm := hc
  unfold settle_clamp.f at hm
  have hm' : mx 1 (mn 16 a0) = (n : Int) := Option.some.inj hm
  unfold mx mn at hm'
  obtain ⟨m0, hm0⟩ : ∃ m, (if a0 < 16 then a0 else 16) = m := ⟨_, rfl⟩
  rw [hm0] at hm'
  have HM0 := Aside0.mk hm0
  have HM1 := Aside0.mk hm'
  clear hm0 hm' hm
  obtain ⟨L8, hL8⟩ : ∃ L, L = rOut n (l1.map toRef) n := ⟨_, rfl⟩
  obtain ⟨L9, hL9⟩ : ∃ L, L = rOut n ((l1 ++ [p]).map toRef) n := ⟨_, rfl⟩
  have H8l := Aside0.mk (show L8.length = n by rw [hL8, rOut_len])
  have H9l := Aside0.mk (show L9.length = n by rw [hL9, rOut_len])
  have H8 := Aside0.mk (show settle_Reach.f (l1.length + 400) a0 l1 = some L8 by rw [hL8]; exact reach_same a0 n HE.out hn l1 (by omega))
  have H9 := Aside0.mk (show settle_Reach.f ((l1 ++ [p]).length + 400) a0 (l1 ++ [p]) = some L9 by rw [hL9]; exact reach_same a0 n HE.out hn (l1 ++ [p]) (by simp; omega))
  have H8e := Aside0.mk hL8
  have H9e := Aside0.mk hL9
  clear hL8 hL9 hr1 hc1 hc hl1 hl'
  have hn' : (n : Int) ≤ 16 := by omega
  have h1n' : (1 : Int) ≤ n := by omega
  have HM0' := HM0.out
  have HM1' := HM1.out
  have HO0 := Aside0.mk (AO.nil w w.heap.size)
  have HB0 := Aside0.mk (Below.refl w.heap.size w)
  go_enter Try.func7, Try.ntmps7
  go_upto_region 5 with (first
    | ((with_reducible refine gate_dst (N := 5) rfl ?_); refine AO.box (w0 := w) (base := w.heap.size) (L := []) k26 [p] 1 rfl 5 rfl (cs := #[.int .i64 p.f0, .int .i64 p.f1]) (t := 26) ?hr5 ?hl5 ?hm5 ?hp5 HO0.out HB0.out HB0.out.size ?_; (case hr5 => first | (go_simp; done) | (go_simp; rfl)); (case hl5 => rfl); (case hm5 => decide); (case hp5 => exact Reps.snoc (Reps.none _ _) (k26_mkM _ _ _ p) rfl); intro g5 w5 ho hb hs hg5; have HO5 := Aside0.mk ho; have HB5 := Aside0.mk hb; have HG5 := Aside0.mk hg5; clear ho hb hs hg5 HO0 HB0)
    | ((with_reducible refine gate_callee (f := 20) rfl ?_); refine goesL_ (some 14) rfl rfl Try.func20 (by kernel_rfl) rfl #[.int .i64 4, .slice none ([] : List S26).length 0] rfl (by (simp only [List.map_toArray, List.map_cons, List.map_nil]; first | done | rfl)) ?_; (refine (settle_Reach.calls 500 4 none 0 [] _ _ (Kd.C_nil _ _) (Nat.le_refl _) gr4).mono ?_); rintro e w14 ⟨v14, rfl, ho14, hb14⟩; refine ⟨_, rfl, ?_⟩; have HO14 := Aside0.mk (HO5.out.push hb14 HB5.out.size (Kd.S_R ho14)); have HB14 := Aside0.mk (below_step HB5.out hb14); clear ho14 hb14 HO5 HB5; obtain ⟨A14, c14, rfl, hc14, _⟩ := HO14.out.reads (i := 0) rfl; have HD14 := Aside0.mk hc14; clear hc14)
    | ((with_reducible refine gate_callee (f := 12) rfl ?_); refine goesL_ (some 27) rfl rfl Try.func12 (by kernel_rfl) rfl #[.slice A1 l1.length c1] rfl (by (simp only [List.map_toArray, List.map_cons, List.map_nil, List.length_map]; first | done | rfl)) ?_; (refine (barrowlaw26_copyPairs.calls A1 c1 l1 l1 _ (Kd.C_below HR1.out HB18.out) HC1.out (copyPairs_self l1 (by have := HL'.out; omega))).mono ?_); rintro e w27 ⟨v27, rfl, ho27, hb27⟩; refine ⟨_, rfl, ?_⟩; have HO27 := Aside0.mk (HO18.out.push hb27 HB18.out.size ho27); have HB27 := Aside0.mk (below_step HB18.out hb27); clear ho27 hb27 HO18 HB18; obtain ⟨A27, c27, rfl, hc27, _⟩ := HO27.out.reads (i := 0) rfl; have HD27 := Aside0.mk hc27; clear hc27)
    | ((with_reducible refine gate_callee (f := 20) rfl ?_); refine goesL_ (some 28) rfl rfl Try.func20 (by kernel_rfl) rfl #[.int .i64 a0, .slice A27 l1.length c27] rfl (by (simp only [List.map_toArray, List.map_cons, List.map_nil, List.length_map]; first | done | rfl)) ?_; (refine (settle_Reach.calls _ a0 A27 c27 l1 L8 _ (Kd.R_reads' (HO27.out.own (i := 0) rfl)).2.2 HD27.out H8.out).mono ?_); rintro e w28 ⟨v28, rfl, ho28, hb28⟩; refine ⟨_, rfl, ?_⟩; have HO28 := Aside0.mk (HO27.out.push hb28 HB27.out.size (Kd.S_R ho28)); have HB28 := Aside0.mk (below_step HB27.out hb28); clear ho28 hb28 HO27 HB27; obtain ⟨A28, c28, rfl, hc28, _⟩ := HO28.out.reads (i := 0) rfl; have HD28 := Aside0.mk hc28; clear hc28)
    | (go_at_call 20; (refine (settle_Reach.calls 500 0 none 0 [] _ _ (Kd.C_nil _ _) (Nat.le_refl _) gr0).mono ?_); rintro e w18 ⟨v18, rfl, ho18, hb18⟩; have HO18 := Aside0.mk (HO14.out.push hb18 HB14.out.size (Kd.S_R ho18)); have HB18 := Aside0.mk (below_step HB14.out hb18); clear ho18 hb18 HO14 HB14; obtain ⟨A18, c18, rfl, hc18, _⟩ := HO18.out.reads (i := 0) rfl; have HD18 := Aside0.mk hc18; clear hc18))
  have HO29 := Aside0.mk (HO28.out.two (i := 0) (j := 4) (by decide) rfl rfl)
  have HB29 := HB28
  clear HO28 HB28
  refine start_ (n := 8) (S := fun w' => w'.cell? ⟨g5, 0, none⟩ = some (.int .i64 p.f0) ∧ w'.cell? ⟨g5, 1, none⟩ = some (.int .i64 p.f1)) (ds := []) #[false, false, false, false, false, false, false, false] (by kernel_rfl) rfl rfl (box2 (HO29.out.drew) (i := 1) rfl) (fun hHeld => ?_)
  refine with_tabW grtab5 grbits5 (fun HT_ HW_ => ?_)
  have n0_ := Aside0.mk HO29.out.drew
  have n1_ := Aside0.mk (below_drew1 HB29.out)
  generalize w28.drew = w30 at n0_ n1_ hHeld ⊢
  have HO30 := n0_
  have HB30 := n1_
  clear n0_ n1_ HO29 HB29
  refine pure_ (i := 0) (N := some 29) (v := ?_) (a' := ?_) #[true, false, false, false, false, false, false, false] rfl rfl (any_of HT_.out (by kernel_rfl)) (fun _ _ _ h => h) (Or.inl ⟨by rfl, ?_⟩) ?_ ?_
  rotate_left
  · intro w'
    go_simp
    with_reducible rfl
  rotate_left
  · simp only [Act.put, List.setIfInBounds_toArray, List.set_cons_zero, List.set_cons_succ]
    rfl
  refine pure_ (i := 1) (N := some 30) (v := ?_) (a' := ?_) #[true, true, false, false, false, false, false, false] rfl rfl (any_of HT_.out (by kernel_rfl)) (fun _ _ _ h => h) (Or.inl ⟨by rfl, ?_⟩) ?_ ?_
  rotate_left
  · intro w'
    go_simp
    with_reducible rfl
  rotate_left
  · simp only [Act.put, List.setIfInBounds_toArray, List.set_cons_zero, List.set_cons_succ]
    rfl
  refine take_ (i := 3) (N := some 32) (v := ?_) (a' := ?_) #[true, true, false, true, false, false, false, false] rfl rfl (take_ofW HT_.out HW_.out (by kernel_rfl)) (fun _ _ _ h => h) (Or.inl ⟨by rfl, ?_⟩) hHeld ?_ ?_
  rotate_left
  · rintro w' ⟨s0, s1⟩
    go_simp
    with_reducible rfl
  rotate_left
  · simp only [Act.put, List.setIfInBounds_toArray, List.set_cons_zero, List.set_cons_succ]
    rfl
  refine join_ (σ := Value × Value) 3 #[true, true, true, true, true, false, false, false] (fun s_ => [(31, s_.1), (33, s_.2)]) (fun s_ w' => (w'.cell? ⟨g5, 0, none⟩ = some (.int .i64 p.f0) ∧ w'.cell? ⟨g5, 1, none⟩ = some (.int .i64 p.f1)) ∧ AO w' w.heap.size [⟨k26, 26, s_.2, [p]⟩, ⟨k26, 26, s_.1, l1⟩, ⟨Kd.slice 3 (Kd.int .i64), 45, .slice A28 L8.length c28, L8⟩, ⟨k26, 26, .slice (some ⟨g5, 0, none⟩) 1 1, [p]⟩] ∧ Below w.heap.size w w') ?_ ?_
  rotate_left
  · intro hCont
    refine two_ (i := 2) (j := 4) (Ni := some 31) (Nj := some 33) #[true, true, true, true, false, false, false, false] #[true, true, false, true, true, false, false, false] rfl rfl rfl rfl (two_of HT_.out (by kernel_rfl)) (by decide) (by decide) (fun K hK => ?_) (fun K hK => ?_)
    · refine goes_ Try.func12 (by kernel_rfl) rfl #[.slice A1 l1.length c1] (by rfl) rfl rfl (by (simp only [List.map_toArray, List.map_cons, List.map_nil]; first | done | rfl)) ?_
      refine (barrowlaw26_copyPairs.calls A1 c1 l1 l1 _ (Kd.C_below HR1.out HB30.out) HC1.out (copyPairs_self l1 (by have := HL'.out; omega))).mono ?_
      rintro e w31 ⟨v31, rfl, ho31, hb31⟩
      refine ⟨_, rfl, ?_⟩
      have HO31 := Aside0.mk (HO30.out.push hb31 HB30.out.size ho31)
      have HB31 := Aside0.mk (below_step HB30.out hb31)
      clear ho31 hb31
      refine hK.out _ _ (box2 HO31.out (i := 2) rfl) (fun hHeld => ?_)
      clear hK K
      refine norm_ (a' := ?_) ?_ ?_
      rotate_left
      · show Act.put _ (some 31) _ = _
        simp only [Act.put, List.setIfInBounds_toArray, List.set_cons_zero, List.set_cons_succ]
        rfl
      refine one_ (i := 4) (N := some 33) #[true, true, true, true, true, false, false, false] rfl rfl (one_of HT_.out (by kernel_rfl)) (by decide) (fun K hK => ?_)
      refine AO.lit_step (w0 := w) (base := w.heap.size) (L := _) k26 26 ?hg33 33 ?hd33 (xs := [p]) (inner := [.int .i64 p.f0, .int .i64 p.f1]) ?hr33 ?hp33 HO31.out HB31.out HB31.out.size ?hm33 ?_
      case hg33 => rfl
      case hd33 => rfl
      case hr33 => first | (go_simp; done) | (go_simp; rfl)
      case hp33 => exact Reps.snoc (Reps.none _ _) (k26_mkM _ _ _ p) rfl
      case hm33 => exact Nat.le_of_ble_eq_true rfl
      intro v33 w33 ho33 hb33 _
      refine hK.out _ _ (box2 ho33 (i := 3) rfl) (fun hHeld => ?_)
      clear hK K
      refine norm_ (a' := ?_) ?_ ?_
      rotate_left
      · show Act.put _ (some 33) _ = _
        simp only [Act.put, List.setIfInBounds_toArray, List.set_cons_zero, List.set_cons_succ]
        rfl
      exact norm_ (by simp only [putAll, Act.put, List.setIfInBounds_toArray, List.set_cons_zero, List.set_cons_succ]) (hCont (v31, v33) _ ⟨hHeld, ho33, hb33⟩)
    · refine AO.lit_step (w0 := w) (base := w.heap.size) (L := _) k26 26 ?hg34 33 ?hd34 (xs := [p]) (inner := [.int .i64 p.f0, .int .i64 p.f1]) ?hr34 ?hp34 HO30.out HB30.out HB30.out.size ?hm34 ?_
      case hg34 => rfl
      case hd34 => rfl
      case hr34 => first | (go_simp; done) | (go_simp; rfl)
      case hp34 => exact Reps.snoc (Reps.none _ _) (k26_mkM _ _ _ p) rfl
      case hm34 => exact Nat.le_of_ble_eq_true rfl
      intro v33 w33 ho33 hb33 _
      have HO33 := Aside0.mk ho33
      have HB33 := Aside0.mk hb33
      clear ho33 hb33
      refine hK.out _ _ (box2 HO33.out (i := 2) rfl) (fun hHeld => ?_)
      clear hK K
      refine norm_ (a' := ?_) ?_ ?_
      rotate_left
      · show Act.put _ (some 33) _ = _
        simp only [Act.put, List.setIfInBounds_toArray, List.set_cons_zero, List.set_cons_succ]
        rfl
      refine one_ (i := 2) (N := some 31) #[true, true, true, true, true, false, false, false] rfl rfl (one_of HT_.out (by kernel_rfl)) (by decide) (fun K hK => ?_)
      refine goes_ Try.func12 (by kernel_rfl) rfl #[.slice A1 l1.length c1] (by rfl) rfl rfl (by (simp only [List.map_toArray, List.map_cons, List.map_nil]; first | done | rfl)) ?_
      refine (barrowlaw26_copyPairs.calls A1 c1 l1 l1 _ (Kd.C_below HR1.out HB33.out) HC1.out (copyPairs_self l1 (by have := HL'.out; omega))).mono ?_
      rintro e w31 ⟨v31, rfl, ho31, hb31⟩
      refine ⟨_, rfl, ?_⟩
      have HO31 := Aside0.mk (HO33.out.push hb31 HB33.out.size ho31).swap
      have HB31 := Aside0.mk (below_step HB33.out hb31)
      clear ho31 hb31
      refine hK.out _ _ (box2 HO31.out (i := 3) rfl) (fun hHeld => ?_)
      clear hK K
      refine norm_ (a' := ?_) ?_ ?_
      rotate_left
      · show Act.put _ (some 31) _ = _
        simp only [Act.put, List.setIfInBounds_toArray, List.set_cons_zero, List.set_cons_succ]
        rfl
      exact norm_ (by simp only [putAll, Act.put, List.setIfInBounds_toArray, List.set_cons_zero, List.set_cons_succ]) (hCont (v31, v33) _ ⟨hHeld, HO31.out, HB31.out⟩)
  rintro ⟨v31, v33⟩ w33 ⟨hS_, ho_, hb_⟩
  have hHeld2 : w33.cell? ⟨g5, 0, none⟩ = some (.int .i64 p.f0) ∧ w33.cell? ⟨g5, 1, none⟩ = some (.int .i64 p.f1) := hS_
  obtain ⟨A33, c33, e33, _, hC33⟩ := ho_.reads (i := 0) rfl
  have e33' : v33 = .slice A33 1 c33 := e33
  subst e33'
  have HC33 := Aside0.mk hC33
  have HO34 := Aside0.mk ho_
  have HB34 := Aside0.mk hb_
  clear hS_ ho_ hb_ HO30 HB30 hC33 e33 hHeld
  refine norm_ (a' := ?_) ?_ ?_
  rotate_left
  · simp only [putAll, Act.put, List.setIfInBounds_toArray, List.set_cons_zero, List.set_cons_succ]
    rfl
  refine one_ (i := 5) (N := some 34) #[true, true, true, true, true, true, false, false] rfl rfl (one_of HT_.out (by kernel_rfl)) (by decide) (fun K hK => ?_)
  refine AO.appendRows_step (w0 := w) (base := w.heap.size) (L := _) 1 k26 l1 [p] A33 1 c33 ?hw35 (.tmp 31) (.tmp 33) 22 26 _ 16 v31 rfl Try.underlying22 info26 rfl ?hs35 ?hb35 rfl rfl HC33.out ?hK35 HO34.out rfl HB34.out HB34.out.size ?hl35 ?_
  case hw35 => rfl
  case hs35 => decide
  case hb35 => decide
  case hK35 => exact k26_KM' _ _
  case hl35 => have := HL'.out; omega
  intro v35 w35 ho hb _
  have HO35 := Aside0.mk ho
  have HB35 := Aside0.mk hb
  clear ho hb HO34 HB34 HC33
  obtain ⟨A35, c35, e35, hc35, _⟩ := HO35.out.reads (i := 1) rfl
  subst e35
  have HD35 := Aside0.mk hc35
  clear hc35
  refine hK.out _ _ (box2 HO35.out (i := 3) rfl) (fun hHeld => ?_)
  clear hK K
  refine norm_ (a' := ?_) ?_ ?_
  rotate_left
  · show Act.put _ (some 34) _ = _
    simp only [Act.put, List.setIfInBounds_toArray, List.set_cons_zero, List.set_cons_succ]
    rfl
  refine one_ (i := 6) (N := some 35) #[true, true, true, true, true, true, true, false] rfl rfl (one_of HT_.out (by kernel_rfl)) (by decide) (fun K hK => ?_)
  refine goes_ Try.func20 (by kernel_rfl) rfl #[.int .i64 a0, .slice A35 (l1 ++ [p]).length c35] (by rfl) rfl rfl (by (simp only [List.map_toArray, List.map_cons, List.map_nil]; first | done | rfl)) ?_
  refine (settle_Reach.calls _ a0 A35 c35 (l1 ++ [p]) L9 _ (Kd.R_reads' (HO35.out.own (i := 1) rfl)).2.2 HD35.out H9.out).mono ?_
  rintro e w36 ⟨v36, rfl, ho36, hb36⟩
  refine ⟨_, rfl, ?_⟩
  have HO36 := Aside0.mk (HO35.out.push hb36 HB35.out.size (Kd.S_R ho36))
  have HB36 := Aside0.mk (below_step HB35.out hb36)
  clear ho36 hb36 HO35 HB35
  refine hK.out _ _ (box2 HO36.out (i := 4) rfl) (fun hHeld => ?_)
  clear hK K
  refine norm_ (a' := ?_) ?_ ?_
  rotate_left
  · show Act.put _ (some 35) _ = _
    simp only [Act.put, List.setIfInBounds_toArray, List.set_cons_zero, List.set_cons_succ]
    rfl
  refine pure_ (i := 7) (N := some 9) (v := ?_) (a' := ?_) #[true, true, true, true, true, true, true, true] rfl rfl (any_of HT_.out (by kernel_rfl)) (fun _ _ _ h => h) (Or.inl ⟨by rfl, ?_⟩) ?_ ?_
  rotate_left
  · intro w'
    go_simp
    with_reducible rfl
  rotate_left
  · simp only [Act.put, List.setIfInBounds_toArray, List.set_cons_zero, List.set_cons_succ]
    rfl
  refine done_ (done_of HT_.out (by kernel_rfl)) ?_
  clear HT_ HW_
  obtain ⟨A36, c36, e36, _, _⟩ := HO36.out.reads (i := 0) rfl
  subst e36
  have HO40 := Aside0.mk (show AO w36 w.heap.size [⟨Kd.slice 3 (Kd.int .i64), 45, .slice A36 n c36, L9⟩, ⟨Kd.slice 3 (Kd.int .i64), 45, .slice A28 n c28, L8⟩, ⟨k26, 26, .slice (some ⟨g5, 0, none⟩) 1 1, [p]⟩] from by
    have h := HO36.out.sub (L' := [⟨Kd.slice 3 (Kd.int .i64), 45, .slice A36 L9.length c36, L9⟩, ⟨Kd.slice 3 (Kd.int .i64), 45, .slice A28 L8.length c28, L8⟩, ⟨k26, 26, .slice (some ⟨g5, 0, none⟩) 1 1, [p]⟩]) (fun i => if i = 0 then 0 else i + 2) (by
      intro i j hi hj h
      split at h <;> split at h <;> omega) (by
      intro i hi
      match i, hi with
      | 0, _ => rfl
      | 1, _ => rfl
      | 2, _ => rfl)
    rw [H8l.out, H9l.out] at h
    exact h)
  clear HO36
  rw [H8l.out, H9l.out]
  obtain ⟨hx0, hx1⟩ := hHeld
  go_upto_region 8 with (fail)
  go_cut [10] (fun v10 wx => v10 = .bool (goodB n p) ∧ wx = w36)
  case first =>
    by_cases q1 : 0 ≤ p.f0
    · have q1b : decide (0 ≤ p.f0) = true := decide_eq_true q1
      by_cases q2 : p.f0 < (n : Int)
      · have q2b : decide (p.f0 < (n : Int)) = true := decide_eq_true q2
        by_cases q3 : 0 ≤ p.f1
        · have q3b : decide (0 ≤ p.f1) = true := decide_eq_true q3
          by_cases q4 : p.f1 < (n : Int)
          · have q4b : decide (p.f1 < (n : Int)) = true := decide_eq_true q4
            by_cases q5 : p.f0 = p.f1
            · have q5b : (p.f0 != p.f1) = false := bne_eq_false_iff_eq.mpr q5
              have HG := Aside0.mk (show goodB n p = false by simp only [goodB, inN, q1b, q2b, q3b, q4b, q5b]; rfl)
              clear q1 q2 q3 q4 q5
              go_wp2
              go_meet
              exact ⟨by rw [HG.out], rfl⟩
            · have q5b : (p.f0 != p.f1) = true := bne_iff_ne.mpr q5
              have HG := Aside0.mk (show goodB n p = true by simp only [goodB, inN, q1b, q2b, q3b, q4b, q5b]; rfl)
              clear q1 q2 q3 q4 q5
              go_wp2
              go_meet
              exact ⟨by rw [HG.out], rfl⟩
          · have q4b : decide (p.f1 < (n : Int)) = false := decide_eq_false q4
            have HG := Aside0.mk (show goodB n p = false by simp only [goodB, inN, q1b, q2b, q3b, q4b]; rfl)
            clear q1 q2 q3 q4
            go_wp2
            go_meet
            exact ⟨by rw [HG.out], rfl⟩
        · have q3b : decide (0 ≤ p.f1) = false := decide_eq_false q3
          have HG := Aside0.mk (show goodB n p = false by simp only [goodB, inN, q1b, q2b, q3b]; rfl)
          clear q1 q2 q3
          go_wp2
          go_meet
          exact ⟨by rw [HG.out], rfl⟩
      · have q2b : decide (p.f0 < (n : Int)) = false := decide_eq_false q2
        have HG := Aside0.mk (show goodB n p = false by simp only [goodB, inN, q1b, q2b]; rfl)
        clear q1 q2
        go_wp2
        go_meet
        exact ⟨by rw [HG.out], rfl⟩
    · have q1b : decide (0 ≤ p.f0) = false := decide_eq_false q1
      have HG := Aside0.mk (show goodB n p = false by simp only [goodB, inN, q1b]; rfl)
      clear q1
      go_wp2
      go_meet
      exact ⟨by rw [HG.out], rfl⟩
  case rest =>
    obtain ⟨rfl, rfl⟩ := hcut
    clear hx0 hx1
    obtain ⟨G, hG⟩ : ∃ G, goodB n p = G := ⟨_, rfl⟩
    rw [hG]
    have HG := Aside0.mk hG
    clear hG
    go_wp2_with (fail)
    have HO50 := HO40
    have HB50 := HB36
    clear HO40 HB36
    go_loopg [11] n (fun k v11 wr => ∃ i : Nat, i ≤ n ∧ v11 = .int .i64 i ∧ Aside0 (k + i = n) ∧ Aside0 (AO wr w.heap.size [⟨Kd.slice 3 (Kd.int .i64), 45, .slice A36 n c36, L9⟩, ⟨Kd.slice 3 (Kd.int .i64), 45, .slice A28 n c28, L8⟩, ⟨k26, 26, .slice (some ⟨g5, 0, none⟩) 1 1, [p]⟩]) ∧ Aside0 (Below w.heap.size w wr))
    case atStart => exact ⟨0, Nat.zero_le _, rfl, ⟨by omega⟩, HO50, HB50⟩
    case round =>
      obtain ⟨i, hi, rfl, HK, HO51, HB51⟩ := hrel
      clear HO50 HB50
      by_cases hlt : i < n
      · obtain ⟨hx0, hx1⟩ := box2 HO51.out (i := 2) rfl
        have h8l := H8l.out
        have h9l := H9l.out
        obtain ⟨ad8, A8, c8, e8, hx8, hl8, hC8⟩ := at_L2 (Kd.R_reads' (HO51.out.own (i := 1) rfl)).2.2 (i : Int) (by omega) (by omega)
        cases e8
        obtain ⟨ad9, A9, c9, e9, hx9, hl9, hC9⟩ := at_L2 (Kd.R_reads' (HO51.out.own (i := 0) rfl)).2.2 (i : Int) (by omega) (by omega)
        cases e9
        simp only [Int.toNat_natCast] at hx8 hx9
        have hr8 : rd_L2 L8 (i : Int) = rowOf n (gm n l1 i) := by rw [H8e.out]; exact gr_row n hn l1 i hlt
        have hr9 : rd_L2 L9 (i : Int) = rowOf n (gm n (l1 ++ [p]) i) := by rw [H9e.out]; exact gr_row n hn (l1 ++ [p]) i hlt
        rw [hr8] at hx8 hl8 hC8
        rw [hr9] at hx9 hl9 hC9
        clear hr8 hr9 h8l h9l
        cases G with
        | false =>
          have hsame := gm_other n l1 p i (Or.inl HG.out)
          rw [hsame] at hx9 hl9 hC9
          clear hsame
          obtain ⟨R, hR⟩ : ∃ R, rowOf n (gm n l1 i) = R := ⟨_, rfl⟩
          have HS := Aside0.mk (sameInts_self R (by rw [← hR]; have := rowOf_len n (gm n l1 i); omega) (R.length + 1) (by omega))
          rw [hR] at hx8 hl8 hC8 hx9 hl9 hC9
          have HL8 := Aside0.mk hl8
          have HL9 := Aside0.mk hl9
          have HC8 := Aside0.mk hC8
          have HC9 := Aside0.mk hC9
          clear hR hl8 hl9 hC8 hC9
          go_wp2_with (fail)
          repeat (go_quiet (first | (go_at_call 23; (with_reducible refine (barrowlaw26_sameInts.calls (R.length + 1) _ _ R _ _ R true _ ?side1 ?side2 ?side3 ?side4 HS.out).mono ?_); (case side1 => repeat (first | exact HC8.out | (with_reducible refine Kd.C_alloc ?_ _) | (with_reducible refine Kd.C_drewN ?_ _) | (with_reducible refine Kd.C_drew ?_))); (case side2 => exact HL8.out); (case side3 => repeat (first | exact HC9.out | (with_reducible refine Kd.C_alloc ?_ _) | (with_reducible refine Kd.C_drewN ?_ _) | (with_reducible refine Kd.C_drew ?_))); (case side4 => exact HL9.out); rintro e w' ⟨rfl, ⟨nd, rfl⟩⟩; (try first | exact ⟨rfl, _, World.drewN_drewN _ _ _⟩ | exact ⟨rfl, _, Eq.trans (World.drewN_drewN _ _ _) (congrArg (World.drewN _) (Nat.add_assoc _ _ _))⟩))); try go_wp2)
          go_roundg (n - (i + 1))
          case measure => have := HK.out; omega
          case rel => exact ⟨i + 1, by omega, by go_num, ⟨by omega⟩, ⟨by repeat (first | (with_reducible exact HO51.out) | (with_reducible apply AO.alloc) | (with_reducible apply AO.drewN) | (with_reducible apply AO.drew))⟩, ⟨by repeat (first | (with_reducible exact HB51.out) | apply below_alloc | apply pw_below_drewN | apply below_drew1)⟩⟩
        | true =>
          by_cases hr : (i : Int) = p.f1
          · have hrb : ((i : Int) != p.f1) = false := bne_eq_false_iff_eq.mpr hr
            have hp1 : p.f1.toNat = i := by rw [← hr]; exact Int.toNat_natCast i
            have hheard := gm_heard n l1 p HG.out
            rw [hp1] at hheard
            have hgo := good_open n p HG.out
            have HGO := Aside0.mk hgo
            obtain ⟨a, ha⟩ : ∃ a, gm n l1 i = a := ⟨_, rfl⟩
            obtain ⟨b, hb⟩ : ∃ b, gm n l1 p.f0.toNat = b := ⟨_, rfl⟩
            have HAi := Aside0.mk (show a.testBit i = true by rw [← ha]; exact gm_self n l1 i hlt)
            rw [hheard, ha, hb] at hx9 hl9 hC9
            rw [ha] at hx8 hl8 hC8
            have HA := Aside0.mk ha
            have HBb := Aside0.mk hb
            have HHi := Aside0.mk (show gm n (l1 ++ [p]) i = a ||| b by rw [hheard, ha, hb])
            clear hheard ha hb hgo hr hp1 hl8 hl9 hC8 hC9
            go_wp2_with (fail)
            have HO96 := Aside0.mk (AO.alloc_box (Kd.int .i64) ([] : List Int) #[] 0 3 rfl (by decide) (Reps.none _ _) HO51.out HB51.out.size)
            have HB96 := Aside0.mk (below_alloc HB51.out (.cells #[] 3))
            clear HO51 HB51
            go_loopg [12, 13] n (fun k v12 v13 wr => ∃ j : Nat, j ≤ n ∧ v13 = .int .i64 j ∧ Aside0 (k + j = n) ∧ Aside0 (AO wr w.heap.size [⟨Kd.int .i64, 3, v12, rowOf j (a ||| b)⟩, ⟨Kd.slice 3 (Kd.int .i64), 45, .slice (some ad9) n c36, L9⟩, ⟨Kd.slice 3 (Kd.int .i64), 45, .slice (some ad8) n c28, L8⟩, ⟨k26, 26, .slice (some ⟨g5, 0, none⟩) 1 1, [p]⟩]) ∧ Aside0 (Below w.heap.size w wr))
            case atStart => exact ⟨0, Nat.zero_le _, rfl, ⟨by omega⟩, HO96, HB96⟩
            case round =>
              obtain ⟨j, hj, rfl, HK2, HO61, HB61⟩ := hrel
              clear HO96 HB96
              obtain ⟨hx0, hx1⟩ := box2 HO61.out (i := 3) rfl
              have h8l := H8l.out
              have h9l := H9l.out
              obtain ⟨ad8, A8, c8, e8, hx8, hl8, hC8⟩ := at_L2 (Kd.R_reads' (HO61.out.own (i := 2) rfl)).2.2 (i : Int) (by omega) (by omega)
              cases e8
              simp only [Int.toNat_natCast] at hx8
              rw [show rd_L2 L8 (i : Int) = rowOf n a by rw [H8e.out, ← HA.out]; exact gr_row n hn l1 i hlt] at hx8 hl8 hC8
              have HL8 := Aside0.mk hl8
              have HC8 := Aside0.mk hC8
              clear hl8 hC8
              by_cases hjn : j < n
              · have hf := HGO.out.1
                have hf2 := HGO.out.2.1
                obtain ⟨ad7, A7, c7, e7, hx7, hl7, hC7⟩ := at_L2 (Kd.R_reads' (HO61.out.own (i := 2) rfl)).2.2 p.f0 hf (by omega)
                cases e7
                rw [show rd_L2 L8 p.f0 = rowOf n b by
                  have e := gr_row n hn l1 p.f0.toNat (by omega)
                  rw [Int.toNat_of_nonneg hf, ← H8e.out, HBb.out] at e
                  exact e] at hx7 hl7 hC7
                have HL7 := Aside0.mk hl7
                have HC7 := Aside0.mk hC7
                clear hl7 hC7 h8l h9l
                have HJa := Aside0.mk (has_row n a j hjn hn)
                have HJb := Aside0.mk (has_row n b j hjn hn)
                have HRs := Aside0.mk (row_snoc j a b)
                have HRl := Aside0.mk (rowOf_len j (a ||| b))
                obtain ⟨ba, hba⟩ : ∃ x, a.testBit j = x := ⟨_, rfl⟩
                obtain ⟨bb, hbb⟩ : ∃ x, b.testBit j = x := ⟨_, rfl⟩
                rw [hba] at HJa HRs
                rw [hbb] at HJb HRs
                clear hba hbb
                cases ba with
                | true =>
                  go_wp2_with (first | ((with_reducible refine gate_callee (f := 24) rfl ?_); refine goesL_ (some 107) rfl rfl Try.func24 (by kernel_rfl) rfl #[.slice A8 (rowOf n a).length c8, .int .i64 j] rfl (by (simp only [List.map_toArray, List.map_cons, List.map_nil, List.length_map]; first | done | rfl)) ?_; (refine (barrowlaw26_has.calls ((rowOf n a).length + 1) A8 c8 (rowOf n a) (j : Int) _ _ HC8.out HL8.out HJa.out).mono ?_); rintro e w107 ⟨rfl, ⟨nd107, rfl⟩⟩; refine ⟨_, rfl, ?_⟩; have HO107 := Aside0.mk (HO61.out.drewN nd107); have HB107 := Aside0.mk (pw_below_drewN HB61.out nd107); clear HO61) | ((with_reducible refine gate_builtin (b := .append) (xs := #[.tmp 117, .tmp 119]) rfl ?_); at_builtin; refine AO.append (w0 := w) (base := w.heap.size) (L := [⟨Kd.int .i64, 3, u12, rowOf j (a ||| b)⟩, ⟨Kd.slice 3 (Kd.int .i64), 45, .slice (some ad9) n c36, L9⟩, ⟨Kd.slice 3 (Kd.int .i64), 45, .slice (some ad8) n c28, L8⟩, ⟨k26, 26, .slice (some ⟨g5, 0, none⟩) 1 1, [p]⟩]) 0 (Kd.int .i64) (rowOf j (a ||| b)) (j : Int) [.int .i64 j] rfl (.tmp 117) (.tmp 119) 45 3 _ 8 u12 rfl Try.underlying45 info3 rfl ?hs77 ?hb77 rfl ?hx77 ?hp77 ?h77 rfl ?HB77 ?hbase77 ?hl77 ?_; (case hs77 => decide); (case hb77 => decide); (case hx77 => first | (go_simp; done) | (go_simp; rfl)); (case hp77 => exact rfl); (case h77 => exact HO107.out); (case HB77 => exact HB107.out); (case hbase77 => exact HB107.out.size); (case hl77 => have := HRl.out; omega); intro v120 w120 ho hb hs; have HO120 := Aside0.mk ho; have HB120 := Aside0.mk hb; clear ho hb hs HO107 HB107))
                  go_roundg (n - (j + 1))
                  case measure => have := HK2.out; omega
                  case rel => exact ⟨j + 1, by omega, by go_num, ⟨by omega⟩, ⟨by rw [HRs.out, if_pos (by rfl)]; exact HO120.out⟩, HB120⟩
                | false =>
                  cases bb with
                  | true =>
                    go_wp2_with (first | ((with_reducible refine gate_callee (f := 24) rfl ?_); refine goesL_ (some 107) rfl rfl Try.func24 (by kernel_rfl) rfl #[.slice A8 (rowOf n a).length c8, .int .i64 j] rfl (by (simp only [List.map_toArray, List.map_cons, List.map_nil, List.length_map]; first | done | rfl)) ?_; (refine (barrowlaw26_has.calls ((rowOf n a).length + 1) A8 c8 (rowOf n a) (j : Int) _ _ HC8.out HL8.out HJa.out).mono ?_); rintro e w107 ⟨rfl, ⟨nd107, rfl⟩⟩; refine ⟨_, rfl, ?_⟩; have HO107 := Aside0.mk (HO61.out.drewN nd107); have HB107 := Aside0.mk (pw_below_drewN HB61.out nd107); clear HO61) | (go_at_call 24; (refine (barrowlaw26_has.calls ((rowOf n b).length + 1) A7 c7 (rowOf n b) (j : Int) _ _ (Kd.C_drewN HC7.out _) HL7.out HJb.out).mono ?_); rintro e w115 ⟨rfl, ⟨nd115, rfl⟩⟩; have HO115 := Aside0.mk (HO107.out.drewN nd115); have HB115 := Aside0.mk (pw_below_drewN HB107.out nd115); clear HO107; rw [World.drewN_drewN] at HO115 HB115) | ((with_reducible refine gate_builtin (b := .append) (xs := #[.tmp 117, .tmp 119]) rfl ?_); at_builtin; refine AO.append (w0 := w) (base := w.heap.size) (L := [⟨Kd.int .i64, 3, u12, rowOf j (a ||| b)⟩, ⟨Kd.slice 3 (Kd.int .i64), 45, .slice (some ad9) n c36, L9⟩, ⟨Kd.slice 3 (Kd.int .i64), 45, .slice (some ad8) n c28, L8⟩, ⟨k26, 26, .slice (some ⟨g5, 0, none⟩) 1 1, [p]⟩]) 0 (Kd.int .i64) (rowOf j (a ||| b)) (j : Int) [.int .i64 j] rfl (.tmp 117) (.tmp 119) 45 3 _ 8 u12 rfl Try.underlying45 info3 rfl ?hs77 ?hb77 rfl ?hx77 ?hp77 ?h77 rfl ?HB77 ?hbase77 ?hl77 ?_; (case hs77 => decide); (case hb77 => decide); (case hx77 => first | (go_simp; done) | (go_simp; rfl)); (case hp77 => exact rfl); (case h77 => exact HO115.out); (case HB77 => exact HB115.out); (case hbase77 => exact HB115.out.size); (case hl77 => have := HRl.out; omega); intro v120 w120 ho hb hs; have HO120 := Aside0.mk ho; have HB120 := Aside0.mk hb; clear ho hb hs HO115 HB115))
                    go_roundg (n - (j + 1))
                    case measure => have := HK2.out; omega
                    case rel => exact ⟨j + 1, by omega, by go_num, ⟨by omega⟩, ⟨by rw [HRs.out, if_pos (by rfl)]; exact HO120.out⟩, HB120⟩
                  | false =>
                    go_wp2_with (first | ((with_reducible refine gate_callee (f := 24) rfl ?_); refine goesL_ (some 107) rfl rfl Try.func24 (by kernel_rfl) rfl #[.slice A8 (rowOf n a).length c8, .int .i64 j] rfl (by (simp only [List.map_toArray, List.map_cons, List.map_nil, List.length_map]; first | done | rfl)) ?_; (refine (barrowlaw26_has.calls ((rowOf n a).length + 1) A8 c8 (rowOf n a) (j : Int) _ _ HC8.out HL8.out HJa.out).mono ?_); rintro e w107 ⟨rfl, ⟨nd107, rfl⟩⟩; refine ⟨_, rfl, ?_⟩; have HO107 := Aside0.mk (HO61.out.drewN nd107); have HB107 := Aside0.mk (pw_below_drewN HB61.out nd107); clear HO61) | (go_at_call 24; (refine (barrowlaw26_has.calls ((rowOf n b).length + 1) A7 c7 (rowOf n b) (j : Int) _ _ (Kd.C_drewN HC7.out _) HL7.out HJb.out).mono ?_); rintro e w115 ⟨rfl, ⟨nd115, rfl⟩⟩; have HO115 := Aside0.mk (HO107.out.drewN nd115); have HB115 := Aside0.mk (pw_below_drewN HB107.out nd115); clear HO107; rw [World.drewN_drewN] at HO115 HB115))
                    go_roundg (n - (j + 1))
                    case measure => have := HK2.out; omega
                    case rel => exact ⟨j + 1, by omega, by go_num, ⟨by omega⟩, ⟨by rw [HRs.out, if_neg (by decide)]; exact HO115.out⟩, HB115⟩
              · obtain ⟨ad9, A9, c9, e9, hx9, hl9, hC9⟩ := at_L2 (Kd.R_reads' (HO61.out.own (i := 1) rfl)).2.2 (i : Int) (by omega) (by omega)
                cases e9
                simp only [Int.toNat_natCast] at hx9
                rw [show rd_L2 L9 (i : Int) = rowOf n (a ||| b) by rw [H9e.out, ← HHi.out]; exact gr_row n hn (l1 ++ [p]) i hlt] at hx9 hl9 hC9
                have HL9 := Aside0.mk hl9
                have HC9 := Aside0.mk hC9
                have hjn' : j = n := by omega
                have HO62 := HO61
                rw [hjn'] at HO62
                have hjnf : ((j : Int) < (n : Int)) = False := eq_false (by omega)
                obtain ⟨A12, c12, e12, hl12, hC12⟩ := HO62.out.reads (i := 0) rfl
                subst e12
                have HL12 := Aside0.mk hl12
                have HC12 := Aside0.mk hC12
                have HB62 := HB61
                have HS := Aside0.mk (sameInts_self (rowOf n (a ||| b)) (by have := rowOf_len n (a ||| b); omega) ((rowOf n (a ||| b)).length + 1) (by omega))
                have HH := Aside0.mk (show barrowlaw26_has.f ((rowOf n a).length + 1) (rowOf n a) (i : Int) = some true by rw [has_row n a i hlt hn, HAi.out])
                clear hl9 hC9 hl12 hC12 hjn hjn' h8l h9l HO61 HB61
                go_wp2_with (first | ((with_reducible refine gate_callee (f := 23) rfl ?_); refine goesL_ (some 126) rfl rfl Try.func23 (by kernel_rfl) rfl #[.slice A9 (rowOf n (a ||| b)).length c9, .slice A12 (rowOf n (a ||| b)).length c12] rfl (by (simp only [List.map_toArray, List.map_cons, List.map_nil, List.length_map]; first | done | rfl)) ?_; (refine (barrowlaw26_sameInts.calls ((rowOf n (a ||| b)).length + 1) A9 c9 (rowOf n (a ||| b)) A12 c12 (rowOf n (a ||| b)) true _ HC9.out HL9.out HC12.out HL12.out HS.out).mono ?_); rintro e w126 ⟨rfl, ⟨nd126, rfl⟩⟩; refine ⟨_, rfl, ?_⟩; have HO126 := Aside0.mk (HO62.out.drewN nd126); have HB126 := Aside0.mk (pw_below_drewN HB62.out nd126); clear HO62) | (go_at_call 24; (refine (barrowlaw26_has.calls ((rowOf n a).length + 1) A8 c8 (rowOf n a) (i : Int) true _ (Kd.C_drewN HC8.out _) HL8.out HH.out).mono ?_); rintro e w134 ⟨rfl, ⟨nd134, rfl⟩⟩; have HO134 := Aside0.mk (HO126.out.drewN nd134); have HB134 := Aside0.mk (pw_below_drewN HB126.out nd134); clear HO126; rw [World.drewN_drewN] at HO134 HB134))
                go_roundg (n - (i + 1))
                case measure => have := HK.out; omega
                case rel => exact ⟨i + 1, by omega, by go_num, ⟨by omega⟩, ⟨HO134.out.tail⟩, HB134⟩
          · have hrb : ((i : Int) != p.f1) = true := bne_iff_ne.mpr hr
            have hsame := gm_other n l1 p i (Or.inr hr)
            clear hr
            rw [hsame] at hx9 hl9 hC9
            clear hsame
            obtain ⟨R, hR⟩ : ∃ R, rowOf n (gm n l1 i) = R := ⟨_, rfl⟩
            have HS := Aside0.mk (sameInts_self R (by rw [← hR]; have := rowOf_len n (gm n l1 i); omega) (R.length + 1) (by omega))
            rw [hR] at hx8 hl8 hC8 hx9 hl9 hC9
            have HL8 := Aside0.mk hl8
            have HL9 := Aside0.mk hl9
            have HC8 := Aside0.mk hC8
            have HC9 := Aside0.mk hC9
            clear hR hl8 hl9 hC8 hC9
            go_wp2_with (fail)
            repeat (go_quiet (first | (go_at_call 23; (with_reducible refine (barrowlaw26_sameInts.calls (R.length + 1) _ _ R _ _ R true _ ?side1 ?side2 ?side3 ?side4 HS.out).mono ?_); (case side1 => repeat (first | exact HC8.out | (with_reducible refine Kd.C_alloc ?_ _) | (with_reducible refine Kd.C_drewN ?_ _) | (with_reducible refine Kd.C_drew ?_))); (case side2 => exact HL8.out); (case side3 => repeat (first | exact HC9.out | (with_reducible refine Kd.C_alloc ?_ _) | (with_reducible refine Kd.C_drewN ?_ _) | (with_reducible refine Kd.C_drew ?_))); (case side4 => exact HL9.out); rintro e w' ⟨rfl, ⟨nd, rfl⟩⟩; (try first | exact ⟨rfl, _, World.drewN_drewN _ _ _⟩ | exact ⟨rfl, _, Eq.trans (World.drewN_drewN _ _ _) (congrArg (World.drewN _) (Nat.add_assoc _ _ _))⟩))); try go_wp2)
            go_roundg (n - (i + 1))
            case measure => have := HK.out; omega
            case rel => exact ⟨i + 1, by omega, by go_num, ⟨by omega⟩, ⟨by repeat (first | (with_reducible exact HO51.out) | (with_reducible apply AO.alloc) | (with_reducible apply AO.drewN) | (with_reducible apply AO.drew))⟩, ⟨by repeat (first | (with_reducible exact HB51.out) | apply below_alloc | apply pw_below_drewN | apply below_drew1)⟩⟩
      · have hin : i = n := by omega
        clear hlt
        have hlt : ((i : Int) < (n : Int)) = False := eq_false (by omega)
        clear hin
        go_wp2
        go_ret
        exact ⟨rfl, HB51.out⟩
end Go.Proofs.Ythpdemfehkoniaa.PSet
