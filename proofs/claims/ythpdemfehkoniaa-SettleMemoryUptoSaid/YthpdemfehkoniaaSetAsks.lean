/- asks: the walk. Condition: at most 2097152 pairs. -/
import Derived.Test.YthpdemfehkoniaaSetMops
import Derived.Test.YthpdemfehkoniaaSetMarkW
import Derived.Test.YthpdemfehkoniaaSetOps
import Derived.Test.YthpdemfehkoniaaSetEn
namespace Go.Proofs.Ythpdemfehkoniaa.PSet
open Go.RowKit Go.Proofs.YthpdemfehkoniaaW.PrintWords Go.Proofs.YthpdemfehkoniaaW.PrintLast Go.Proofs.YthpdemfehkoniaaW.PrintMore Go.Proofs.YthpdemfehkoniaaW.AO
attribute [local go_sem high] eqA29
set_option linter.unusedVariables false
set_option linter.unusedSimpArgs false
theorem settle_Ops_calls (b : Bool) (A0 : Option Addr) (c0 : Nat) (l0 : List S26) (w : World) (hr0 : Kd.C k26 w A0 l0.length l0) (hc0 : l0.length ≤ c0) (hl : l0.length ≤ 1048576) :
    Calls Try.prog 10 #[.slice A0 l0.length c0, .bool b] w fun e w' => ∃ v0_ : Value, e = .returned v0_ ∧ Kd.R k29 29 w' w.heap.size (fun _ => True) v0_ (l0.map (opOf b)) ∧ Below w.heap.size w w' := by
  cases b
  · exact settle_Ops_f A0 c0 l0 w hr0 hc0 hl
  · exact settle_Ops_t A0 c0 l0 w hr0 hc0 hl
/-- The cells of the box that holds the struct. -/
def Box (w : World) (g : Nat) (a0 : Int) (full : Bool) : Prop := w.cell? ⟨g, 0, none⟩ = some (.int .i64 a0) ∧ w.cell? ⟨g, 3, none⟩ = some (.bool full) ∧ g < w.heap.size
theorem Box.below {w w1 : World} {g : Nat} {a0 : Int} {full : Bool} (h : Box w g a0 full) (hb : Below w.heap.size w w1) : Box w1 g a0 full :=
  ⟨(hb.cell h.2.2).trans h.1, (hb.cell h.2.2).trans h.2.1, Nat.lt_of_lt_of_le h.2.2 hb.size⟩
def as1T : Bool × List (List Nat × List Nat) := (true, [([], []), ([0], [0]), ([], []), ([2], [2]), ([1, 3, 3], [1, 3]), ([4, 4, 0, 1, 2, 3, 4], [4])])
def as1B : List Nat := [0, 1, 0, 4, 15, 31]
theorem as1tab : rtab .any (opsOf Try.f26 1) = as1T := by kernel_rfl
theorem as1bits : waitsOk as1T.2 as1B = true := by kernel_rfl
def as2T : Bool × List (List Nat × List Nat) := (true, [([], []), ([0], [0]), ([], []), ([2], [2]), ([1, 3, 3], [1, 3]), ([4, 4, 0, 1, 2, 3, 4], [4])])
def as2B : List Nat := [0, 1, 0, 4, 15, 31]
theorem as2tab : rtab .any (opsOf Try.f26 2) = as2T := by kernel_rfl
theorem as2bits : waitsOk as2T.2 as2B = true := by kernel_rfl
theorem rows16 (n : Nat) (hn : n ≤ 16) (ps : List S60) (q : Nat) : ((rOut n ps n ++ rOut n ps n).getD q []).length ≤ 16 := by
  rw [List.getD_eq_getElem?_getD]
  rcases Nat.lt_or_ge q (rOut n ps n).length with h | h
  · rw [List.getElem?_append_left h, ← List.getD_eq_getElem?_getD]
    exact Nat.le_trans (rOut_bound n ps n q) hn
  · rw [List.getElem?_append_right h, ← List.getD_eq_getElem?_getD]
    exact Nat.le_trans (rOut_bound n ps n _) hn
set_option maxHeartbeats 16000000 in
set_option maxRecDepth 100000 in
theorem asks_calls (a0 : Int) (n : Nat) (h1n : 1 ≤ n) (hn : n ≤ 16) (hc : settle_clamp.f a0 = some (n : Int)) (hrep : barrowref26_Reps.f a0 = some (n : Int)) (AA AB : Option Addr) (nA cA nB cB : Nat) (full : Bool) (A1 A2 : Option Addr) (c1 c2 : Nat) (l : List S26) (w : World)
    (hr1 : Kd.C k26 w A1 l.length l) (hc1 : l.length ≤ c1) (hr2 : Kd.C k26 w A2 l.length l) (hc2 : l.length ≤ c2) (hl : l.length ≤ 1048576) :
    Calls Try.prog 26 #[.agg #[.int .i64 a0, .slice AA nA cA, .slice AB nB cB, .bool full], .slice A1 l.length c1, .slice A2 l.length c2] w fun e w' => e = .returned (.bool true) ∧ Below w.heap.size w w' := by
  have hu26 := Try.underlying26
  have hu29 := Try.underlying29
  have HR1 := Aside0.mk hr1
  have HR2 := Aside0.mk hr2
  have HC1 := Aside0.mk hc1
  have HC2 := Aside0.mk hc2
  have HL := Aside0.mk hl
  have HE := Aside0.mk hc
  have HN := Aside0.mk hrep
  obtain ⟨E, hE⟩ : ∃ E, fullB n (msAll n l) = E := ⟨_, rfl⟩
  have HEe := Aside0.mk (show settle_Enough.f (l.length + 400) a0 l = some E by rw [← hE]; exact enough_eq a0 n HE.out hn l (by omega) _ (Nat.le_refl _))
  have HEr := Aside0.mk (show refB n (rOut n (l.map toRef) n) = E by rw [ref_full n hn, hE])
  clear hr1 hr2 hc1 hc2 hl hc hrep hE
  go_enter Try.func26, Try.ntmps26
  go_upto_region 1 with (fail)
  have hbox : Box (w.alloc (.cells #[.int .i64 a0, .slice AA nA cA, .slice AB nB cB, .bool full] 53)) w.heap.size a0 full := ⟨by simp [go_sem], by simp [go_sem], by simp⟩
  have hb1 := below_alloc (Below.refl w.heap.size w) (.cells #[.int .i64 a0, .slice AA nA cA, .slice AB nB cB, .bool full] 53)
  obtain ⟨g, hg⟩ : ∃ g, w.heap.size = g := ⟨_, rfl⟩
  have HR1' := Aside0.mk (Kd.C_below HR1.out hb1)
  have HR2' := Aside0.mk (Kd.C_below HR2.out hb1)
  generalize (w.alloc (.cells #[.int .i64 a0, .slice AA nA cA, .slice AB nB cB, .bool full] 53)) = w1 at hbox hb1 HR1' HR2' ⊢
  have HB1 := Aside0.mk hb1
  rw [hg] at hbox ⊢
  have HX := Aside0.mk hbox
  clear hbox hb1 hg HR1 HR2
  have HB0 := Aside0.mk (Below.refl w1.heap.size w1)
  refine start_ (n := 6) (S := fun w' => w'.cell? ⟨g, 0, none⟩ = some (.int .i64 a0)) (ds := []) #[false, false, false, false, false, false] (by kernel_rfl) rfl rfl ((HX.out.below (HB0.out.drew)).1) (fun hHeld => ?_)
  refine with_tabW as1tab as1bits (fun HT_ HW_ => ?_)
  have HBd := Aside0.mk (HB0.out.drew)
  generalize w1.drew = wd at HBd hHeld ⊢
  clear HB0
  refine pure_ (i := 0) (N := some 16) (v := ?_) (a' := ?_) #[true, false, false, false, false, false] rfl rfl (any_of HT_.out (by kernel_rfl)) (fun _ _ _ h => h) (Or.inl ⟨by rfl, ?_⟩) ?_ ?_
  rotate_left
  · intro w'
    go_simp
    with_reducible rfl
  rotate_left
  · simp only [Act.put, List.setIfInBounds_toArray, List.set_cons_zero, List.set_cons_succ]
    rfl
  refine take_ (i := 1) (N := some 17) (v := ?_) (a' := ?_) #[true, true, false, false, false, false] rfl rfl (take_ofW HT_.out HW_.out (by kernel_rfl)) (fun _ _ _ h => h) (Or.inl ⟨by rfl, ?_⟩) hHeld ?_ ?_
  rotate_left
  · rintro w' s0
    go_simp
    with_reducible rfl
  rotate_left
  · simp only [Act.put, List.setIfInBounds_toArray, List.set_cons_zero, List.set_cons_succ]
    rfl
  refine pure_ (i := 2) (N := some 18) (v := ?_) (a' := ?_) #[true, true, true, false, false, false] rfl rfl (any_of HT_.out (by kernel_rfl)) (fun _ _ _ h => h) (Or.inl ⟨by rfl, ?_⟩) ?_ ?_
  rotate_left
  · intro w'
    go_simp
    with_reducible rfl
  rotate_left
  · simp only [Act.put, List.setIfInBounds_toArray, List.set_cons_zero, List.set_cons_succ]
    rfl
  refine one_ (i := 3) (N := some 19) #[true, true, true, true, false, false] rfl rfl (one_of HT_.out (by kernel_rfl)) (by decide) (fun K hK => ?_)
  refine goes_ Try.func22 (by kernel_rfl) rfl #[.slice A2 l.length c2] (by rfl) rfl rfl (by (simp only [List.map_toArray, List.map_cons, List.map_nil]; first | done | rfl)) ?_
  refine (barrowlaw26_refPairs.calls (l.length + 1) A2 c2 l (l.map toRef) _ (Kd.C_below HR2'.out HBd.out) HC2.out (refPairs_eq l (by have := HL.out; omega))).mono ?_
  rintro e w23 ⟨v23, rfl, ho, hb⟩
  refine ⟨_, rfl, ?_⟩
  have HB23 := Aside0.mk (below_step HBd.out hb)
  obtain ⟨A23, c23, ev, hc, hC⟩ := Kd.R_reads ho
  subst ev
  have HD23 := Aside0.mk hc
  have HC23 := Aside0.mk hC
  clear ho hb hc hC HBd
  refine hK.out _ _ ((HX.out.below HB23.out).1) (fun hHeld => ?_)
  clear hK K
  refine norm_ (a' := ?_) ?_ ?_
  rotate_left
  · show Act.put _ (some 19) _ = _
    simp only [Act.put, List.setIfInBounds_toArray, List.set_cons_zero, List.set_cons_succ]
    rfl
  refine one_ (i := 4) (N := some 20) #[true, true, true, true, true, false] rfl rfl (one_of HT_.out (by kernel_rfl)) (by decide) (fun K hK => ?_)
  refine goes_ Try.func21 (by kernel_rfl) rfl #[.int .i64 a0, .slice A23 (l.map toRef).length c23] (by rfl) rfl rfl (by (simp only [List.map_toArray, List.map_cons, List.map_nil]; first | done | rfl)) ?_
  refine (barrowref26_Reach_calls a0 n HN.out hn A23 c23 (l.map toRef) _ HC23.out HD23.out).mono ?_
  rintro e w24 ⟨v24, rfl, ho, hb⟩
  refine ⟨_, rfl, ?_⟩
  have HB24 := Aside0.mk (below_step HB23.out hb)
  obtain ⟨A24, c24, ev, hc, hC⟩ := Kd.R_reads (Kd.S_R ho)
  subst ev
  have HD24 := Aside0.mk hc
  have HC24 := Aside0.mk hC
  clear ho hb hc hC HB23 HC23 HD23
  refine hK.out _ _ ((HX.out.below HB24.out).1) (fun hHeld => ?_)
  clear hK K
  refine norm_ (a' := ?_) ?_ ?_
  rotate_left
  · show Act.put _ (some 20) _ = _
    simp only [Act.put, List.setIfInBounds_toArray, List.set_cons_zero, List.set_cons_succ]
    rfl
  refine pure_ (i := 5) (N := some 7) (v := ?_) (a' := ?_) #[true, true, true, true, true, true] rfl rfl (any_of HT_.out (by kernel_rfl)) (fun _ _ _ h => h) (Or.inl ⟨by rfl, ?_⟩) ?_ ?_
  rotate_left
  · intro w'
    go_simp
    with_reducible rfl
  rotate_left
  · simp only [Act.put, List.setIfInBounds_toArray, List.set_cons_zero, List.set_cons_succ]
    rfl
  refine done_ (done_of HT_.out (by kernel_rfl)) ?_
  clear HT_ HW_
  go_upto_region 2 with (fail)
  refine start_ (n := 6) (S := fun w' => w'.cell? ⟨g, 0, none⟩ = some (.int .i64 a0)) (ds := []) #[false, false, false, false, false, false] (by kernel_rfl) rfl rfl ((HX.out.below (HB24.out.drew)).1) (fun hHeld => ?_)
  refine with_tabW as2tab as2bits (fun HT_ HW_ => ?_)
  have HBd := Aside0.mk (HB24.out.drew)
  have HC24d := Aside0.mk (Kd.C_below HC24.out (below_drew (Below.refl _ _)))
  generalize w24.drew = wd at HBd HC24d hHeld ⊢
  clear HB24
  refine pure_ (i := 0) (N := some 21) (v := ?_) (a' := ?_) #[true, false, false, false, false, false] rfl rfl (any_of HT_.out (by kernel_rfl)) (fun _ _ _ h => h) (Or.inl ⟨by rfl, ?_⟩) ?_ ?_
  rotate_left
  · intro w'
    go_simp
    with_reducible rfl
  rotate_left
  · simp only [Act.put, List.setIfInBounds_toArray, List.set_cons_zero, List.set_cons_succ]
    rfl
  refine take_ (i := 1) (N := some 22) (v := ?_) (a' := ?_) #[true, true, false, false, false, false] rfl rfl (take_ofW HT_.out HW_.out (by kernel_rfl)) (fun _ _ _ h => h) (Or.inl ⟨by rfl, ?_⟩) hHeld ?_ ?_
  rotate_left
  · rintro w' s0
    go_simp
    with_reducible rfl
  rotate_left
  · simp only [Act.put, List.setIfInBounds_toArray, List.set_cons_zero, List.set_cons_succ]
    rfl
  refine pure_ (i := 2) (N := some 23) (v := ?_) (a' := ?_) #[true, true, true, false, false, false] rfl rfl (any_of HT_.out (by kernel_rfl)) (fun _ _ _ h => h) (Or.inl ⟨by rfl, ?_⟩) ?_ ?_
  rotate_left
  · intro w'
    go_simp
    with_reducible rfl
  rotate_left
  · simp only [Act.put, List.setIfInBounds_toArray, List.set_cons_zero, List.set_cons_succ]
    rfl
  refine one_ (i := 3) (N := some 24) #[true, true, true, true, false, false] rfl rfl (one_of HT_.out (by kernel_rfl)) (by decide) (fun K hK => ?_)
  refine goes_ Try.func22 (by kernel_rfl) rfl #[.slice A2 l.length c2] (by rfl) rfl rfl (by (simp only [List.map_toArray, List.map_cons, List.map_nil]; first | done | rfl)) ?_
  refine (barrowlaw26_refPairs.calls (l.length + 1) A2 c2 l (l.map toRef) _ (Kd.C_below HR2'.out HBd.out) HC2.out (refPairs_eq l (by have := HL.out; omega))).mono ?_
  rintro e w26 ⟨v26, rfl, ho, hb⟩
  refine ⟨_, rfl, ?_⟩
  have HB26 := Aside0.mk (below_step HBd.out hb)
  obtain ⟨A26, c26, ev, hc, hC⟩ := Kd.R_reads ho
  subst ev
  have HD26 := Aside0.mk hc
  have HC26x := Aside0.mk (Kd.C_below HC24d.out hb)
  have HC26 := Aside0.mk hC
  clear ho hb hc hC HBd
  refine hK.out _ _ ((HX.out.below HB26.out).1) (fun hHeld => ?_)
  clear hK K
  refine norm_ (a' := ?_) ?_ ?_
  rotate_left
  · show Act.put _ (some 24) _ = _
    simp only [Act.put, List.setIfInBounds_toArray, List.set_cons_zero, List.set_cons_succ]
    rfl
  refine one_ (i := 4) (N := some 25) #[true, true, true, true, true, false] rfl rfl (one_of HT_.out (by kernel_rfl)) (by decide) (fun K hK => ?_)
  refine goes_ Try.func27 (by kernel_rfl) rfl #[.int .i64 a0, .slice A26 (l.map toRef).length c26] (by rfl) rfl rfl (by (simp only [List.map_toArray, List.map_cons, List.map_nil]; first | done | rfl)) ?_
  refine (barrowref26_Enough_calls a0 n HN.out hn A26 c26 (l.map toRef) _ HC26.out HD26.out E HEr.out).mono ?_
  rintro e w27 ⟨rfl, hb⟩
  refine ⟨_, rfl, ?_⟩
  have HB27 := Aside0.mk (below_step HB26.out hb)
  have HC27 := Aside0.mk (Kd.C_below HC26x.out hb)
  clear hb HB26 HC26 HD26 HC26x
  refine hK.out _ _ ((HX.out.below HB27.out).1) (fun hHeld => ?_)
  clear hK K
  refine norm_ (a' := ?_) ?_ ?_
  rotate_left
  · show Act.put _ (some 25) _ = _
    simp only [Act.put, List.setIfInBounds_toArray, List.set_cons_zero, List.set_cons_succ]
    rfl
  refine pure_ (i := 5) (N := some 8) (v := ?_) (a' := ?_) #[true, true, true, true, true, true] rfl rfl (any_of HT_.out (by kernel_rfl)) (fun _ _ _ h => h) (Or.inl ⟨by rfl, ?_⟩) ?_ ?_
  rotate_left
  · intro w'
    go_simp
    with_reducible rfl
  rotate_left
  · simp only [Act.put, List.setIfInBounds_toArray, List.set_cons_zero, List.set_cons_succ]
    rfl
  refine done_ (done_of HT_.out (by kernel_rfl)) ?_
  clear HT_ HW_
  have HO27 := Aside0.mk (AO.nil w27 w1.heap.size)
  have HC24_27 := HC27
  have hEE : (E != E) = false := by simp
  have hEb : (E == E) = true := by simp
  obtain ⟨hx0, hx3, _⟩ := HX.out.below HB27.out
  clear HC24 HC24d HC27 hHeld
  go_wp2_with (first
    | ((with_reducible refine gate_callee (f := 20) rfl ?_); refine goesL_ (some 29) rfl rfl Try.func20 (by kernel_rfl) rfl #[.int .i64 a0, .slice A1 l.length c1] rfl (by (simp only [List.map_toArray, List.map_cons, List.map_nil, List.length_map]; first | done | rfl)) ?_; (refine (settle_Reach.calls (l.length + 400) a0 A1 c1 l (rOut n (l.map toRef) n) _ (Kd.C_below HR1'.out HB27.out) HC1.out (reach_same a0 n HE.out hn l (by have := HL.out; omega))).mono ?_); rintro e w29 ⟨v29, rfl, ho, hb⟩; refine ⟨_, rfl, ?_⟩; have HB29 := Aside0.mk (below_step HB27.out hb); have HC24_29 := Aside0.mk (Kd.C_below HC24_27.out hb); clear HC24_27; obtain ⟨hs29, hhl, hfo⟩ := HO27.out.flat hb HB27.out.size ho; have HO29 := Aside0.mk hfo; have HH29 := Aside0.mk hhl; obtain ⟨A29, c29, ev, hc, hC⟩ := Kd.R_reads (Kd.S_R ho); have HV29 := Aside0.mk ev; have HD29 := Aside0.mk hc; have HC29_29 := Aside0.mk hC; clear ho hb hfo hhl hc hC HO27; subst ev; clear hx0 hx3; obtain ⟨hx0, hx3, _⟩ := HX.out.below HB29.out; clear HB27)
    | ((with_reducible refine gate_callee (f := 20) rfl ?_); refine goesL_ (some 33) rfl rfl Try.func20 (by kernel_rfl) rfl #[.int .i64 a0, .slice A1 l.length c1] rfl (by (simp only [List.map_toArray, List.map_cons, List.map_nil, List.length_map]; first | done | rfl)) ?_; (refine (settle_Reach.calls (l.length + 400) a0 A1 c1 l (rOut n (l.map toRef) n) _ (Kd.C_below HR1'.out HB29.out) HC1.out (reach_same a0 n HE.out hn l (by have := HL.out; omega))).mono ?_); rintro e w33 ⟨v33, rfl, ho, hb⟩; refine ⟨_, rfl, ?_⟩; have HB33 := Aside0.mk (below_step HB29.out hb); have HC24_33 := Aside0.mk (Kd.C_below HC24_29.out hb); clear HC24_29; have HC29_33 := Aside0.mk (Kd.C_below HC29_29.out hb); clear HC29_29; obtain ⟨hs33, hhl, hfo⟩ := HO29.out.flat hb HB29.out.size ho; have HO33 := Aside0.mk hfo; have HH33 := Aside0.mk hhl; obtain ⟨A33, c33, ev, hc, hC⟩ := Kd.R_reads (Kd.S_R ho); have HV33 := Aside0.mk ev; have HD33 := Aside0.mk hc; have HC33_33 := Aside0.mk hC; clear ho hb hfo hhl hc hC HO29; subst ev; clear hx0 hx3; obtain ⟨hx0, hx3, _⟩ := HX.out.below HB33.out; clear HB29)
    | ((with_reducible refine gate_callee (f := 10) rfl ?_); refine goesL_ (some 37) rfl rfl Try.func10 (by kernel_rfl) rfl #[.slice A1 l.length c1, .bool full] rfl (by (simp only [List.map_toArray, List.map_cons, List.map_nil, List.length_map]; first | done | rfl)) ?_; (refine (settle_Ops_calls full A1 c1 l _ (Kd.C_below HR1'.out HB33.out) HC1.out HL.out).mono ?_); rintro e w37 ⟨v37, rfl, ho, hb⟩; refine ⟨_, rfl, ?_⟩; have HB37 := Aside0.mk (below_step HB33.out hb); have HC24_37 := Aside0.mk (Kd.C_below HC24_33.out hb); clear HC24_33; have HC29_37 := Aside0.mk (Kd.C_below HC29_33.out hb); clear HC29_33; have HC33_37 := Aside0.mk (Kd.C_below HC33_33.out hb); clear HC33_33; have HO37 := Aside0.mk (HO33.out.push hb HB33.out.size ho); obtain ⟨A37, c37, ev, hc, hC⟩ := Kd.R_reads ho; rw [List.length_map] at ev hc hC; have HD37 := Aside0.mk hc; have HC37_37 := Aside0.mk hC; clear ho hb hc hC HO33; subst ev; clear hx0 hx3; obtain ⟨hx0, hx3, _⟩ := HX.out.below HB37.out; clear HB33)
    | ((with_reducible refine gate_callee (f := 10) rfl ?_); refine goesL_ (some 41) rfl rfl Try.func10 (by kernel_rfl) rfl #[.slice A1 l.length c1, .bool full] rfl (by (simp only [List.map_toArray, List.map_cons, List.map_nil, List.length_map]; first | done | rfl)) ?_; (refine (settle_Ops_calls full A1 c1 l _ (Kd.C_below HR1'.out HB37.out) HC1.out HL.out).mono ?_); rintro e w41 ⟨v41, rfl, ho, hb⟩; refine ⟨_, rfl, ?_⟩; have HB41 := Aside0.mk (below_step HB37.out hb); have HC24_41 := Aside0.mk (Kd.C_below HC24_37.out hb); clear HC24_37; have HC29_41 := Aside0.mk (Kd.C_below HC29_37.out hb); clear HC29_37; have HC33_41 := Aside0.mk (Kd.C_below HC33_37.out hb); clear HC33_37; have HC37_41 := Aside0.mk (Kd.C_below HC37_37.out hb); clear HC37_37; have HO41 := Aside0.mk (HO37.out.push hb HB37.out.size ho); obtain ⟨A41, c41, ev, hc, hC⟩ := Kd.R_reads ho; rw [List.length_map] at ev hc hC; have HD41 := Aside0.mk hc; have HC41_41 := Aside0.mk hC; clear ho hb hc hC HO37; subst ev; clear hx0 hx3; obtain ⟨hx0, hx3, _⟩ := HX.out.below HB41.out; clear HB37)
    | ((with_reducible refine gate_callee (f := 19) rfl ?_); refine goesL_ (some 44) rfl rfl Try.func19 (by kernel_rfl) rfl #[.slice A29 (rOut n (l.map toRef) n).length c29, .slice A24 (rOut n (l.map toRef) n).length c24] rfl (by (simp only [List.map_toArray, List.map_cons, List.map_nil, List.length_map]; first | done | rfl)) ?_; (refine (barrowlaw26_sameLists.calls _ A29 c29 _ A24 c24 _ true _ HC29_41.out HD29.out HC24_41.out HD24.out (sameLists_self _ n (rOut_rows n _) (by omega) (by rw [rOut_len]; omega))).mono ?_); rintro e w' ⟨rfl, ⟨nd, rfl⟩⟩; refine ⟨_, rfl, ?_⟩)
    | (go_at_call 19; (refine (barrowlaw26_sameLists.calls _ A33 c33 _ A24 c24 _ true _ (Kd.C_below HC33_41.out (pw_below_drewN (Below.refl _ _) _)) HD33.out (Kd.C_below HC24_41.out (pw_below_drewN (Below.refl _ _) _)) HD24.out (sameLists_self _ n (rOut_rows n _) (by omega) (by rw [rOut_len]; omega))).mono ?_); rintro e w' ⟨rfl, ⟨nd, rfl⟩⟩)
    | (go_at_call 25; (refine (settle_Enough.calls _ a0 A1 c1 l E _ (Kd.C_below HR1'.out (pw_below_drewN HB41.out _)) HC1.out HEe.out).mono ?_); rintro e w56 ⟨rfl, hb⟩; have HB56 := Aside0.mk (below_step (pw_below_drewN HB41.out _) hb); have HC37_56 := Aside0.mk (Kd.C_below (Kd.C_below HC37_41.out (pw_below_drewN (Below.refl _ _) _)) hb); clear HC37_41; have HC41_56 := Aside0.mk (Kd.C_below (Kd.C_below HC41_41.out (pw_below_drewN (Below.refl _ _) _)) hb); clear HC41_41; have HO56 := Aside0.mk ((HO41.out.drewN _).below hb); clear hb HO41 HB41; clear hx0 hx3)
    | (go_at_call 13; (refine (barrowlaw26_samePair.calls (l.length + 1) A1 c1 l A2 c2 l true _ (Kd.C_below HR1'.out HB56.out) HC1.out (Kd.C_below HR2'.out HB56.out) HC2.out (samePair_self _ (by have := HL.out; omega))).mono ?_); rintro e w' ⟨rfl, ⟨ndp, rfl⟩⟩))
  obtain ⟨LL, hLL, hAO⟩ : ∃ L : List Ob, L = _ ∧ AO _ w1.heap.size L := ⟨_, rfl, HO56.out.drewN ndp⟩
  have HLL := Aside0.mk hLL
  have HA9 := Aside0.mk hAO
  have HB9 := Aside0.mk (pw_below_drewN HB56.out ndp)
  have HP9 := Aside0.mk (Kd.C_below HC37_56.out (pw_below_drewN (Below.refl _ _) ndp))
  have HQ9 := Aside0.mk (Kd.C_below HC41_56.out (pw_below_drewN (Below.refl _ _) ndp))
  clear hLL hAO HO56 HB56 HC37_56 HC41_56 hEE hEb
  obtain ⟨kk, hkk⟩ : ∃ kk : Int, (if full then 9 else 8) = kk := ⟨_, rfl⟩
  have HKK := Aside0.mk hkk
  clear hkk
  go_loopg [80] l.length (fun k v80 wx => ∃ i : Nat, i ≤ l.length ∧ v80 = .int .i64 i ∧ Aside0 (k + i = l.length) ∧ Aside0 (AO wx w1.heap.size LL) ∧ Aside0 (Below w1.heap.size w1 wx) ∧ Aside0 (Kd.C k29 wx A37 l.length (l.map (opOf full))) ∧ Aside0 (Kd.C k29 wx A41 l.length (l.map (opOf full))))
  case atStart => exact ⟨0, Nat.zero_le _, rfl, ⟨by omega⟩, HA9, HB9, HP9, HQ9⟩
  case round =>
    obtain ⟨i, hi, rfl, HK, HAr, HBr, HPr, HQr⟩ := hrel
    clear HA9 HB9 HP9 HQ9
    by_cases hlt : i < l.length
    · have HLT := Aside0.mk hlt
      have hi9 : i < 1048576 := by have := HL.out; omega
      obtain ⟨p, hp⟩ : ∃ p, p = rd_T26 l (i : Int) := ⟨_, rfl⟩
      have hrd : rd_T29 (l.map (opOf full)) (i : Int) = opOf full p := by
        rw [hp]; unfold rd_T29 rd_T26
        rw [Int.toNat_natCast, List.getD_eq_getElem?_getD, List.getElem?_map, List.getD_eq_getElem?_getD, List.getElem?_eq_getElem hlt]; rfl
      obtain ⟨adp, ep, x0, x1, x2, x3, x4, x5, x6⟩ := at_T29 HPr.out (i : Int) (by omega) (by omega)
      obtain ⟨adq, eq, z0, z1, z2, z3, z4, z5, z6⟩ := at_T29 HQr.out (i : Int) (by omega) (by omega)
      obtain ⟨adc, ec, y0, y1⟩ := at_T26 (Kd.C_below HR2'.out HBr.out) (i : Int) (by omega) (by omega)
      rw [hrd] at x0 x1 x2 x3 x4 x5 x6 z0 z1 z2 z3 z4 z5 z6
      rw [← hp] at y0 y1
      simp only [Int.toNat_natCast, opOf] at x0 x1 x2 x3 x4 x5 x6 y0 y1 z0 z1 z2 z3 z4 z5 z6
      rw [HKK.out] at x0 z0
      cases ep
      cases eq
      cases ec
      clear hp hrd
      go_wp2_with (fail)
      have hb5 := below_alloc (Below.refl wr.heap.size wr) (Obj.cells #[Value.int IntKind.i64 p.f0, Value.int IntKind.i64 p.f1] 26)
      have HA5 := Aside0.mk (HAr.out.alloc (Obj.cells #[Value.int IntKind.i64 p.f0, Value.int IntKind.i64 p.f1] 26))
      have HB5 := Aside0.mk (below_alloc HBr.out (Obj.cells #[Value.int IntKind.i64 p.f0, Value.int IntKind.i64 p.f1] 26))
      have HP5 := Aside0.mk (Kd.C_below HPr.out hb5)
      have HQ5 := Aside0.mk (Kd.C_below HQr.out hb5)
      replace x0 := (hb5.cell (World.block_lt_of_cell? wr _ x0)).trans x0
      replace x1 := (hb5.cell (World.block_lt_of_cell? wr _ x1)).trans x1
      replace x2 := (hb5.cell (World.block_lt_of_cell? wr _ x2)).trans x2
      replace x3 := (hb5.cell (World.block_lt_of_cell? wr _ x3)).trans x3
      replace x4 := (hb5.cell (World.block_lt_of_cell? wr _ x4)).trans x4
      replace x5 := (hb5.cell (World.block_lt_of_cell? wr _ x5)).trans x5
      replace x6 := (hb5.cell (World.block_lt_of_cell? wr _ x6)).trans x6
      replace z0 := (hb5.cell (World.block_lt_of_cell? wr _ z0)).trans z0
      replace z1 := (hb5.cell (World.block_lt_of_cell? wr _ z1)).trans z1
      replace z2 := (hb5.cell (World.block_lt_of_cell? wr _ z2)).trans z2
      replace z3 := (hb5.cell (World.block_lt_of_cell? wr _ z3)).trans z3
      replace z4 := (hb5.cell (World.block_lt_of_cell? wr _ z4)).trans z4
      replace z5 := (hb5.cell (World.block_lt_of_cell? wr _ z5)).trans z5
      replace z6 := (hb5.cell (World.block_lt_of_cell? wr _ z6)).trans z6
      have u0 : (wr.alloc (Obj.cells #[Value.int IntKind.i64 p.f0, Value.int IntKind.i64 p.f1] 26)).cell? ⟨wr.heap.size, 0, none⟩ = some (.int .i64 p.f0) := by simp [go_sem]
      have u1 : (wr.alloc (Obj.cells #[Value.int IntKind.i64 p.f0, Value.int IntKind.i64 p.f1] 26)).cell? ⟨wr.heap.size, 1, none⟩ = some (.int .i64 p.f1) := by simp [go_sem]
      clear hb5 y0 y1 HAr HBr HPr HQr
      generalize (wr.alloc (Obj.cells #[Value.int IntKind.i64 p.f0, Value.int IntKind.i64 p.f1] 26)) = wz at x0 x1 x2 x3 x4 x5 x6 z0 z1 z2 z3 z4 z5 z6 u0 u1 HA5 HB5 HP5 HQ5 ⊢
      generalize wr.heap.size = gy at u0 u1 ⊢
      go_quiet (fail)
      go_wp2_with (fail)
      go_roundg (l.length - (i + 1))
      case measure => have := HK.out; have := HLT.out; omega
      case rel => exact ⟨i + 1, by have := HLT.out; omega, by go_num, ⟨by have := HLT.out; have := HK.out; omega⟩, ⟨HA5.out.drewN _⟩, ⟨pw_below_drewN HB5.out _⟩, ⟨Kd.C_below HP5.out (pw_below_drewN (Below.refl _ _) _)⟩, ⟨Kd.C_below HQ5.out (pw_below_drewN (Below.refl _ _) _)⟩⟩
    · have hHa : hs29.length = n := by rw [HH29.out, rOut_len]
      have hHb : hs33.length = n := by rw [HH33.out, rOut_len]
      have hRL : (rOut n (l.map toRef) n).length = n := rOut_len _ _ _
      have hb10 := HBr.out.size
      have hA := HAr.out
      rw [HLL.out] at hA
      rw [hRL] at hA ⊢
      have hB := HBr.out
      clear HAr HBr HPr HQr HLL
      have hA1 := (hA.perm (L2 := heads 45 (.slice A33 n c33) hs33 :: (rowsOf (Kd.int .i64) 3 hs33 (rOut n (l.map toRef) n) ++ (heads 45 (.slice A29 n c29) hs29 :: (rowsOf (Kd.int .i64) 3 hs29 (rOut n (l.map toRef) n) ++ [(⟨k29, 29, .slice A37 l.length c37, l.map (opOf full)⟩ : Ob), ⟨k29, 29, .slice A41 l.length c41, l.map (opOf full)⟩])))) (by
        refine List.Perm.trans (List.Perm.swap _ _ _) ?_
        refine (List.perm_append_comm (l₁ := [(⟨k29, 29, .slice A37 l.length c37, l.map (opOf full)⟩ : Ob), ⟨k29, 29, .slice A41 l.length c41, l.map (opOf full)⟩]) (l₂ := heads 45 (.slice A33 n c33) hs33 :: (rowsOf (Kd.int .i64) 3 hs33 (rOut n (l.map toRef) n) ++ (heads 45 (.slice A29 n c29) hs29 :: (rowsOf (Kd.int .i64) 3 hs29 (rOut n (l.map toRef) n) ++ []))))).trans ?_
        simp only [List.append_nil, List.cons_append, List.append_assoc]
        exact List.Perm.refl _))
      obtain ⟨Ab9, cb9, eb9, _, hCb⟩ := hA1.reads (i := 0) rfl
      obtain ⟨Aa9, ca9, ea9, _, hCa⟩ := hA1.reads (i := n + 1) (d := Kd.raw 1) (e := 45) (v := .slice A29 n c29) (xs := hs29.map fun u => [u]) (by
        rw [List.getElem?_cons_succ, List.getElem?_append_right (by rw [rowsOf_len (by rw [hHb, hRL]), hRL]; exact Nat.le_refl _), rowsOf_len (by rw [hHb, hRL]), hRL, Nat.sub_self]; rfl)
      obtain rfl : A33 = Ab9 := by injection eb9
      obtain rfl : A29 = Aa9 := by injection ea9
      rw [List.length_map, hHb] at hCb
      rw [List.length_map, hHa] at hCa
      have HHa := Aside0.mk hHa
      have HHb := Aside0.mk hHb
      have HRL := Aside0.mk hRL
      have HA1 := Aside0.mk hA1
      have HB1' := Aside0.mk hB
      have HCa := Aside0.mk hCa
      have HCb := Aside0.mk hCb
      clear hHa hHb hRL hb10 hA hB hA1 hCa hCb ea9 eb9
      go_wp2_with (first
        | ((with_reducible refine gate_builtin (b := .append) (xs := #[.tmp 123, .tmp 124]) rfl ?_); at_builtin; go_must (refine AO.appendRows (w0 := w1) (base := w1.heap.size) (L := ⟨Kd.raw 1, 45, .slice (some ⟨wr.heap.size, 0, none⟩) 0 0, []⟩ :: heads 45 (.slice A33 n c33) hs33 :: (rowsOf (Kd.int .i64) 3 hs33 (rOut n (l.map toRef) n) ++ (heads 45 (.slice A29 n c29) hs29 :: (rowsOf (Kd.int .i64) 3 hs29 (rOut n (l.map toRef) n) ++ [(⟨k29, 29, .slice A37 l.length c37, l.map (opOf full)⟩ : Ob), ⟨k29, 29, .slice A41 l.length c41, l.map (opOf full)⟩])))) 0 (Kd.raw 1) [] (hs29.map fun u => [u]) A29 n c29 rfl (.tmp 123) (.tmp 124) 43 45 _ 24 (.slice (some ⟨wr.heap.size, 0, none⟩) 0 0) rfl Try.underlying43 info45 rfl ?hs_5 ?hb_5 rfl rfl ?hC_5 ?hK_5 ?h_5 rfl ?HB_5 ?hbs_5 ?hl_5 ?_); (case hs_5 => decide); (case hb_5 => decide); (case hC_5 => exact Kd.C_below HCa.out (below_alloc (Below.refl _ _) (Obj.cells #[] 45))); (case hK_5 => exact fun _ _ h => h); (case h_5 => exact AO.alloc_box (Kd.raw 1) [] #[] 0 45 rfl (by decide) (Reps.none _ _) HA1.out HB1'.out.size); (case HB_5 => exact (below_alloc HB1'.out (Obj.cells #[] 45))); (case hbs_5 => exact ((below_alloc HB1'.out (Obj.cells #[] 45))).size); (case hl_5 => simp; omega); intro v5 w5 ho hb hs; have HO5 := Aside0.mk ho; have HB5 := Aside0.mk hb; obtain ⟨Ab, cb, eb, _, hCb⟩ := ho.reads (i := 1) (d := Kd.raw 1) (e := 45) (v := .slice A33 n c33) (xs := hs33.map fun u => [u]) rfl; obtain rfl : A33 = Ab := (by injection eb); rw [List.length_map, HHb.out] at hCb; have HCb5 := Aside0.mk hCb; clear ho hb hs hCb eb HA1 HB1' HCa HCb)
        | ((with_reducible refine gate_builtin (b := .append) (xs := #[.tmp 125, .tmp 126]) rfl ?_); at_builtin; go_must (refine AO.appendRows (w0 := w1) (base := w1.heap.size) (L := ⟨Kd.raw 1, 45, v5, [] ++ (hs29.map fun u => [u])⟩ :: heads 45 (.slice A33 n c33) hs33 :: (rowsOf (Kd.int .i64) 3 hs33 (rOut n (l.map toRef) n) ++ (heads 45 (.slice A29 n c29) hs29 :: (rowsOf (Kd.int .i64) 3 hs29 (rOut n (l.map toRef) n) ++ [(⟨k29, 29, .slice A37 l.length c37, l.map (opOf full)⟩ : Ob), ⟨k29, 29, .slice A41 l.length c41, l.map (opOf full)⟩])))) 0 (Kd.raw 1) ([] ++ hs29.map fun u => [u]) (hs33.map fun u => [u]) A33 n c33 rfl (.tmp 125) (.tmp 126) 43 45 _ 24 v5 rfl Try.underlying43 info45 rfl ?hs_6 ?hb_6 rfl rfl ?hC_6 ?hK_6 ?h_6 rfl ?HB_6 ?hbs_6 ?hl_6 ?_); (case hs_6 => decide); (case hb_6 => decide); (case hC_6 => exact HCb5.out); (case hK_6 => exact fun _ _ h => h); (case h_6 => exact HO5.out); (case HB_6 => exact HB5.out); (case hbs_6 => exact (HB5.out).size); (case hl_6 => simp [HHa.out]; omega); intro v6 w6 ho hb hs; have hO := AO.both (hl := (by rw [HHa.out, HRL.out])) (show AO w6 w1.heap.size (heads 45 v6 (hs29 ++ hs33) :: heads 45 (.slice A33 n c33) hs33 :: (rowsOf (Kd.int .i64) 3 hs33 (rOut n (l.map toRef) n) ++ (heads 45 (.slice A29 n c29) hs29 :: (rowsOf (Kd.int .i64) 3 hs29 (rOut n (l.map toRef) n) ++ [(⟨k29, 29, .slice A37 l.length c37, l.map (opOf full)⟩ : Ob), ⟨k29, 29, .slice A41 l.length c41, l.map (opOf full)⟩])))) from (by have h := ho; unfold heads at h ⊢; rw [List.map_append]; exact h)); obtain ⟨g6, c6, e6, _⟩ := hO.form (i := 0) (d := Kd.raw 1) (e := 45) (v := v6) (xs := (hs29 ++ hs33).map fun u => [u]) rfl (by rw [List.length_map, List.length_append, HHa.out]; omega); rw [List.length_map, List.length_append, HHa.out, HHb.out] at e6; subst e6; have HO6 := Aside0.mk hO; have HB6 := Aside0.mk hb; clear hO ho hb hs HO5 HB5 HCb5)
        | ((with_reducible refine gate_callee (f := 33) rfl ?_); refine goesL_ (some 129) rfl rfl Try.func33 (by kernel_rfl) rfl #[.slice (some ⟨g6, 0, none⟩) (n + n) c6] rfl (by (simp only [List.map_toArray, List.map_cons, List.map_nil, List.length_map]; first | done | rfl)) ?_; (refine (markInts_calls g6 (n + n) c6 (hs29 ++ hs33) (rOut n (l.map toRef) n ++ rOut n (l.map toRef) n) [(⟨k29, 29, .slice A37 l.length c37, l.map (opOf full)⟩ : Ob), ⟨k29, 29, .slice A41 l.length c41, l.map (opOf full)⟩] _ w1.heap.size (by omega) (by omega) (by rw [List.length_append, HHa.out, HHb.out]) (by rw [List.length_append, HRL.out]) (rows16 n hn (l.map toRef)) HO6.out HB6.out.size).mono ?_); rintro e w7 ⟨rfl, ho, hb⟩; refine ⟨_, rfl, ?_⟩; have HO7 := Aside0.mk ho; have HB7 := Aside0.mk (HB6.out.trans hb); clear ho hb HO6 HB6)
        | (go_at_call 34; (refine (markOps_calls (.slice A37 l.length c37) (.slice A41 l.length c41) (l.map (opOf full)) (l.map (opOf full)) l.length l.length (List.length_map _) (List.length_map _) (by have := HL.out; omega) (by have := HL.out; omega) [] _ w1.heap.size HO7.out HB7.out.size).mono ?_); rintro e w8 ⟨rfl, ho, hb⟩; have HB8 := Aside0.mk (HB7.out.trans hb); clear ho hb))
      go_ret
      exact ⟨rfl, below_then HB1.out HB1.out.size (HB8.out)⟩
end Go.Proofs.Ythpdemfehkoniaa.PSet
