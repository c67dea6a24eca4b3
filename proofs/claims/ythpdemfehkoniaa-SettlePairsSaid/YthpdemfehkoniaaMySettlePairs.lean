/- SettlePairs, the walk: whatever the printed functions tell of the statement's run, the Go code comes to it. No condition. (Turned from the printed text of this function, which falls in Lean at one test; the callees are printed.) -/
import Derived.Test.YthpdemfehkoniaaPSettlePairsx0
import Derived.Test.YthpdemfehkoniaaPSettlePairsx1
namespace Go.Proofs.Ythpdemfehkoniaa.PSettlePairs
open Go.RowKit Go.Proofs.YthpdemfehkoniaaW.PrintWords Go.Proofs.YthpdemfehkoniaaW.PrintLast Go.Proofs.YthpdemfehkoniaaW.PrintMore
attribute [local go_sem] max2_int min2_int max_two min_two max_three min_three max_four min_four   -- for this text's walks alone
set_option linter.unusedVariables false
set_option linter.unusedSimpArgs false

/-! ### barrowlaw26_SettlePairs: function 4 -/
mutual
def barrowlaw26_SettlePairs.j0 : Nat → Int → List (S26) → List (S60) → Bool → Option (Bool)
  | 0, _, _, _, _ => none
  | k + 1, x0, x3, x4, x18 => if x18 = true then (some false) else (barrowlaw26_SettlePairs.l0 k x0 x3 x4 (x3.length : Int) 0)
def barrowlaw26_SettlePairs.l0 : Nat → Int → List (S26) → List (S60) → Int → Int → Option (Bool)
  | 0, _, _, _, _, _ => none
  | k + 1, x0, x3, x4, x20, x21 => if x21 < x20 then (if 0 ≤ x21 then (if x21 < (x3.length : Int) then (barrowlaw26_SettlePairs.l0 k x0 (x3.set (x21 : Int).toNat (⟨(-1), (-2)⟩ : S26)) x4 x20 (wrap64 (x21 + 1))) else (none)) else (none)) else (if x3.length < 8796093022208 then ((settle_Pairs.f k x0).bind fun t133 => ((barrowlaw26_samePairs.f k t133 x4).bind fun t136 => (some t136))) else (none))
end
def barrowlaw26_SettlePairs.f (k : Nat) (a0 : Int) : Option (Bool) := (settle_Pairs.f k a0).bind fun t119 => ((barrowref26_Pairs.f k a0).bind fun t122 => ((settle_Pairs.f k 2).bind fun t125 => (if (t125.length : Int) = 2 then ((barrowlaw26_samePairs.f k t119 t122).bind fun t128 => (barrowlaw26_SettlePairs.j0 k a0 t119 t122 (!t128))) else (barrowlaw26_SettlePairs.j0 k a0 t119 t122 true))))
theorem barrowlaw26_SettlePairs.mono_l : ∀ k, (∀ y0 y1 y2 y3, LeO (barrowlaw26_SettlePairs.j0 k y0 y1 y2 y3) (barrowlaw26_SettlePairs.j0 (k + 1) y0 y1 y2 y3)) ∧ (∀ y0 y1 y2 y3 y4, LeO (barrowlaw26_SettlePairs.l0 k y0 y1 y2 y3 y4) (barrowlaw26_SettlePairs.l0 (k + 1) y0 y1 y2 y3 y4))
  | 0 => ⟨fun _ _ _ _ r h => by simp [barrowlaw26_SettlePairs.j0] at h, fun _ _ _ _ _ r h => by simp [barrowlaw26_SettlePairs.l0] at h⟩
  | k + 1 => by
    obtain ⟨ih0, ih1⟩ := barrowlaw26_SettlePairs.mono_l k
    refine ⟨?_, ?_⟩
    · intro y0 y1 y2 y3
      unfold barrowlaw26_SettlePairs.j0
      repeat' first
      | (with_reducible exact ih0 _ _ _ _)
      | (with_reducible exact ih1 _ _ _ _ _)
      | (with_reducible exact barrowlaw26_samePairs.mono _ _ _)
      | (with_reducible exact barrowref26_Pairs.mono _ _)
      | (with_reducible exact settle_Pairs.mono _ _)
      | (with_reducible exact LeO.refl _)
      | (with_reducible exact LeO.none _)
      | (with_reducible refine LeO.ite ?_ ?_)
      | (with_reducible refine LeO.bind ?_ (fun _ => ?_))
      | exact ih0 _ _ _ _
      | exact ih1 _ _ _ _ _
      | exact barrowlaw26_samePairs.mono _ _ _
      | exact barrowref26_Pairs.mono _ _
      | exact settle_Pairs.mono _ _
      | exact LeO.none _
      | refine LeO.ite ?_ ?_
      | refine LeO.bind ?_ (fun _ => ?_)
    · intro y0 y1 y2 y3 y4
      unfold barrowlaw26_SettlePairs.l0
      repeat' first
      | (with_reducible exact ih0 _ _ _ _)
      | (with_reducible exact ih1 _ _ _ _ _)
      | (with_reducible exact barrowlaw26_samePairs.mono _ _ _)
      | (with_reducible exact barrowref26_Pairs.mono _ _)
      | (with_reducible exact settle_Pairs.mono _ _)
      | (with_reducible exact LeO.refl _)
      | (with_reducible exact LeO.none _)
      | (with_reducible refine LeO.ite ?_ ?_)
      | (with_reducible refine LeO.bind ?_ (fun _ => ?_))
      | exact ih0 _ _ _ _
      | exact ih1 _ _ _ _ _
      | exact barrowlaw26_samePairs.mono _ _ _
      | exact barrowref26_Pairs.mono _ _
      | exact settle_Pairs.mono _ _
      | exact LeO.none _
      | refine LeO.ite ?_ ?_
      | refine LeO.bind ?_ (fun _ => ?_)
theorem barrowlaw26_SettlePairs.mono : ∀ a0 k, LeO (barrowlaw26_SettlePairs.f k a0) (barrowlaw26_SettlePairs.f (k + 1) a0) := by
  intro a0 k
  obtain ⟨ih0, ih1⟩ := barrowlaw26_SettlePairs.mono_l k
  unfold barrowlaw26_SettlePairs.f
  repeat' first
      | (with_reducible exact ih0 _ _ _ _)
      | (with_reducible exact ih1 _ _ _ _ _)
      | (with_reducible exact barrowlaw26_samePairs.mono _ _ _)
      | (with_reducible exact barrowref26_Pairs.mono _ _)
      | (with_reducible exact settle_Pairs.mono _ _)
      | (with_reducible exact LeO.refl _)
      | (with_reducible exact LeO.none _)
      | (with_reducible refine LeO.ite ?_ ?_)
      | (with_reducible refine LeO.bind ?_ (fun _ => ?_))
      | exact ih0 _ _ _ _
      | exact ih1 _ _ _ _ _
      | exact barrowlaw26_samePairs.mono _ _ _
      | exact barrowref26_Pairs.mono _ _
      | exact settle_Pairs.mono _ _
      | exact LeO.none _
      | refine LeO.ite ?_ ?_
      | refine LeO.bind ?_ (fun _ => ?_)
set_option maxHeartbeats 8000000 in
set_option maxRecDepth 100000 in
theorem barrowlaw26_SettlePairs.calls (k : Nat) (a0 : Int) (r : Bool) (w : World) (h : barrowlaw26_SettlePairs.f k a0 = some r) :
    Calls Try.prog 4 #[.int .i64 a0] w fun e w' => e = .returned (.bool r) ∧ Below w.heap.size w w' := by
  have hu26 := Try.underlying26
  have HB := Aside0.mk (Below.refl w.heap.size w)
  have H : ((settle_Pairs.f k a0).bind fun t119 => ((barrowref26_Pairs.f k a0).bind fun t122 => ((settle_Pairs.f k 2).bind fun t125 => (if (t125.length : Int) = 2 then ((barrowlaw26_samePairs.f k t119 t122).bind fun t128 => (barrowlaw26_SettlePairs.j0 k a0 t119 t122 (!t128))) else (barrowlaw26_SettlePairs.j0 k a0 t119 t122 true))))) = some r := h
  clear h
  replace H := Option.bind_eq_some_iff.mp H
  obtain ⟨t119, A20, H⟩ := H
  replace H : ((barrowref26_Pairs.f k a0).bind fun t122 => ((settle_Pairs.f k 2).bind fun t125 => (if (t125.length : Int) = 2 then ((barrowlaw26_samePairs.f k t119 t122).bind fun t128 => (barrowlaw26_SettlePairs.j0 k a0 t119 t122 (!t128))) else (barrowlaw26_SettlePairs.j0 k a0 t119 t122 true)))) = some r := H
  have A2 := Aside0.mk A20
  clear A20
  replace H := Option.bind_eq_some_iff.mp H
  obtain ⟨t122, A30, H⟩ := H
  replace H : ((settle_Pairs.f k 2).bind fun t125 => (if (t125.length : Int) = 2 then ((barrowlaw26_samePairs.f k t119 t122).bind fun t128 => (barrowlaw26_SettlePairs.j0 k a0 t119 t122 (!t128))) else (barrowlaw26_SettlePairs.j0 k a0 t119 t122 true))) = some r := H
  have A3 := Aside0.mk A30
  clear A30
  have HC4 := Aside0.mk H
  clear H
  go_enter Try.func4, Try.ntmps4
  go_upto_region 3 with (first | ((with_reducible refine gate_callee (f := 14) rfl ?_); refine goesL_ (some 7) rfl rfl Try.func14 (by kernel_rfl) rfl #[.int .i64 a0] rfl (by (try simp only [List.map_toArray, List.map_cons, List.map_nil]); first | done | rfl | (simp only [List.length_drop, List.length_take]; rfl)) ?_; (with_reducible refine (settle_Pairs.calls k a0 t119 _ A2.out).mono ?_); rintro e w5 ⟨v120, rfl, ho0, hb⟩; refine ⟨_, rfl, ?_⟩; have n0_ := Aside0.mk (Kd.R_lower ho0 (below_size (by repeat (first | (with_reducible first | exact HB.out | apply below_alloc | apply pw_below_drewN | apply below_drew1) | exact HB.out)))); have n1_ := Aside0.mk (below_step (by repeat (first | (with_reducible first | exact HB.out | apply below_alloc | apply pw_below_drewN | apply below_drew1) | exact HB.out)) hb); clear HB; have HO121 := n0_; have HB := n1_; clear n0_ n1_; (try clear hb); (try clear hb2); (try clear hk); (try clear hi); (try clear ho0)) | ((with_reducible refine gate_callee (f := 15) rfl ?_); refine goesL_ (some 9) rfl rfl Try.func15 (by kernel_rfl) rfl #[.int .i64 a0] rfl (by (try simp only [List.map_toArray, List.map_cons, List.map_nil]); first | done | rfl | (simp only [List.length_drop, List.length_take]; rfl)) ?_; (with_reducible refine (barrowref26_Pairs.calls k a0 t122 _ A3.out).mono ?_); rintro e w6 ⟨v123, rfl, ho0, hb⟩; refine ⟨_, rfl, ?_⟩; have n0_ := Aside0.mk (Kd.R_below (by (with_reducible repeat (first | apply Kd.R_alloc | apply Kd.R_drewN | apply Kd.R_drew)); exact HO121.out) hb); have n1_ := Aside0.mk (Kd.R_lower ho0 (below_size (by repeat (first | (with_reducible first | exact HB.out | apply below_alloc | apply pw_below_drewN | apply below_drew1) | exact HB.out)))); have n2_ := Aside0.mk (below_step (by repeat (first | (with_reducible first | exact HB.out | apply below_alloc | apply pw_below_drewN | apply below_drew1) | exact HB.out)) hb); clear HO121; clear HB; have HO121 := n0_; have HO124 := n1_; have HB := n2_; clear n0_ n1_ n2_; (try clear hb); (try clear hb2); (try clear hk); (try clear hi); (try clear ho0)))
  (try simp only [Act.put, List.setIfInBounds_toArray, List.set_cons_zero, List.set_cons_succ])
  go_cut [18] (fun v18 wc => ∃ (kq : Nat) (x18_3 : Bool), v18 = .bool x18_3 ∧ Aside0 (barrowlaw26_SettlePairs.j0 kq a0 t119 t122 x18_3 = some r) ∧ Aside0 (kq ≤ k) ∧ Aside0 (Kd.R k26 26 wc w.heap.size (fun _ => True) v120 t119) ∧ Aside0 (Kd.R k60 60 wc w.heap.size (fun _ => True) v123 t122) ∧ Aside0 (Below w.heap.size w wc))
  case first =>
    have H := HC4.out
    clear HC4
    replace H := Option.bind_eq_some_iff.mp H
    obtain ⟨t125, A70, H⟩ := H
    replace H : (if (t125.length : Int) = 2 then ((barrowlaw26_samePairs.f k t119 t122).bind fun t128 => (barrowlaw26_SettlePairs.j0 k a0 t119 t122 (!t128))) else (barrowlaw26_SettlePairs.j0 k a0 t119 t122 true)) = some r := H
    have A7 := Aside0.mk A70
    clear A70
    by_cases c8 : (t125.length : Int) = 2
    · rw [if_pos c8] at H
      have c8b0 : ((t125.length : Int) == 2) = true := beq_iff_eq.mpr c8
      have c8b1 : ((t125.length : Int) != 2) = false := bne_eq_false_iff_eq.mpr c8
      clear c8
      (first | rw [c8b0] | (simp only [i64_w, i32_w]; rw [c8b0]) | skip)
      replace H := Option.bind_eq_some_iff.mp H
      obtain ⟨t128, A90, H⟩ := H
      replace H : (barrowlaw26_SettlePairs.j0 k a0 t119 t122 (!t128)) = some r := H
      have A9 := Aside0.mk A90
      clear A90
      have H' := Aside0.mk H
      clear H
      go_wp2_with (first | ((with_reducible refine gate_callee (f := 14) rfl ?_); refine goesL_ (some 10) rfl rfl Try.func14 (by kernel_rfl) rfl #[.int .i64 2] rfl (by (try simp only [List.map_toArray, List.map_cons, List.map_nil]); first | done | rfl | (simp only [List.length_drop, List.length_take]; rfl)) ?_; (with_reducible refine (settle_Pairs.calls k 2 t125 _ A7.out).mono ?_); rintro e w10 ⟨v126, rfl, ho0, hb⟩; refine ⟨_, rfl, ?_⟩; have n0_ := Aside0.mk (Kd.R_elder' (by (with_reducible repeat (first | apply Kd.R_alloc | apply Kd.R_drewN | apply Kd.R_drew)); exact HO121.out) (Kd.R_base ho0) hb); have n1_ := Aside0.mk (Kd.R_below (by (with_reducible repeat (first | apply Kd.R_alloc | apply Kd.R_drewN | apply Kd.R_drew)); exact HO124.out) hb); have n2_ := Aside0.mk (Kd.R_lower (Kd.R_new' ho0 (Kd.R_lt (by (with_reducible repeat (first | apply Kd.R_alloc | apply Kd.R_drewN | apply Kd.R_drew)); exact HO121.out))) (below_size (by repeat (first | (with_reducible first | exact HB.out | apply below_alloc | apply pw_below_drewN | apply below_drew1) | exact HB.out)))); have n3_ := Aside0.mk (below_step (by repeat (first | (with_reducible first | exact HB.out | apply below_alloc | apply pw_below_drewN | apply below_drew1) | exact HB.out)) hb); clear HO121; clear HO124; clear HB; have HO121 := n0_; have HO124 := n1_; have HO127 := n2_; have HB := n3_; clear n0_ n1_ n2_ n3_; (try clear hb); (try clear hb2); (try clear hk); (try clear hi); (try clear ho0); obtain ⟨Ao11, co11, eo11⟩ := Kd.R_slice HO127.out; subst eo11; obtain ⟨Ao12, co12, eo12⟩ := Kd.R_slice HO121.out; subst eo12; obtain ⟨Ao13, co13, eo13⟩ := Kd.R_slice HO124.out; subst eo13) | (go_at_call 16; (with_reducible refine (barrowlaw26_samePairs.calls k _ _ t119 _ _ t122 t128 _ ?side1 ?side2 ?side3 ?side4 A9.out).mono ?_); (case side1 => repeat (first | exact (Kd.R_reads' HO121.out).2.2 | (with_reducible refine Kd.C_alloc ?_ _) | (with_reducible refine Kd.C_drewN ?_ _) | (with_reducible refine Kd.C_drew ?_))); (case side2 => exact (Kd.R_reads' HO121.out).2.1); (case side3 => repeat (first | exact (Kd.R_reads' HO124.out).2.2 | (with_reducible refine Kd.C_alloc ?_ _) | (with_reducible refine Kd.C_drewN ?_ _) | (with_reducible refine Kd.C_drew ?_))); (case side4 => exact (Kd.R_reads' HO124.out).2.1); rintro e w' ⟨rfl, ⟨nd, rfl⟩⟩))
      go_meet
      case rel => exact ⟨_, (!t128), (by first | rfl | (simp; done) | (simp [*]; done)), H', ⟨by first | omega | exact Nat.le_refl _⟩, ⟨by (with_reducible repeat (first | apply Kd.R_alloc | apply Kd.R_drewN | apply Kd.R_drew)); exact Kd.R_mono HO121.out (fun _ hk => trivial)⟩, ⟨by (with_reducible repeat (first | apply Kd.R_alloc | apply Kd.R_drewN | apply Kd.R_drew)); exact HO124.out⟩, ⟨by repeat (first | (with_reducible first | exact HB.out | apply below_alloc | apply pw_below_drewN | apply below_drew1) | exact HB.out)⟩⟩
    · rw [if_neg c8] at H
      have c8b0 : ((t125.length : Int) == 2) = false := beq_eq_false_iff_ne.mpr c8
      have c8b1 : ((t125.length : Int) != 2) = true := bne_iff_ne.mpr c8
      (first | rw [c8b0] | (simp only [i64_w, i32_w]; rw [c8b0]) | skip)
      have H' := Aside0.mk H
      clear H
      go_wp2_with (first | ((with_reducible refine gate_callee (f := 14) rfl ?_); refine goesL_ (some 10) rfl rfl Try.func14 (by kernel_rfl) rfl #[.int .i64 2] rfl (by (try simp only [List.map_toArray, List.map_cons, List.map_nil]); first | done | rfl | (simp only [List.length_drop, List.length_take]; rfl)) ?_; (with_reducible refine (settle_Pairs.calls k 2 t125 _ A7.out).mono ?_); rintro e w14 ⟨v126, rfl, ho0, hb⟩; refine ⟨_, rfl, ?_⟩; have n0_ := Aside0.mk (Kd.R_elder' (by (with_reducible repeat (first | apply Kd.R_alloc | apply Kd.R_drewN | apply Kd.R_drew)); exact HO121.out) (Kd.R_base ho0) hb); have n1_ := Aside0.mk (Kd.R_below (by (with_reducible repeat (first | apply Kd.R_alloc | apply Kd.R_drewN | apply Kd.R_drew)); exact HO124.out) hb); have n2_ := Aside0.mk (Kd.R_lower (Kd.R_new' ho0 (Kd.R_lt (by (with_reducible repeat (first | apply Kd.R_alloc | apply Kd.R_drewN | apply Kd.R_drew)); exact HO121.out))) (below_size (by repeat (first | (with_reducible first | exact HB.out | apply below_alloc | apply pw_below_drewN | apply below_drew1) | exact HB.out)))); have n3_ := Aside0.mk (below_step (by repeat (first | (with_reducible first | exact HB.out | apply below_alloc | apply pw_below_drewN | apply below_drew1) | exact HB.out)) hb); clear HO121; clear HO124; clear HB; have HO121 := n0_; have HO124 := n1_; have HO127 := n2_; have HB := n3_; clear n0_ n1_ n2_ n3_; (try clear hb); (try clear hb2); (try clear hk); (try clear hi); (try clear ho0); obtain ⟨Ao15, co15, eo15⟩ := Kd.R_slice HO127.out; subst eo15))
      go_meet
      case rel => exact ⟨_, (true), (by first | rfl | (simp; done) | (simp [*]; done)), H', ⟨by first | omega | exact Nat.le_refl _⟩, ⟨by (with_reducible repeat (first | apply Kd.R_alloc | apply Kd.R_drewN | apply Kd.R_drew)); exact Kd.R_mono HO121.out (fun _ hk => trivial)⟩, ⟨by (with_reducible repeat (first | apply Kd.R_alloc | apply Kd.R_drewN | apply Kd.R_drew)); exact HO124.out⟩, ⟨by repeat (first | (with_reducible first | exact HB.out | apply below_alloc | apply pw_below_drewN | apply below_drew1) | exact HB.out)⟩⟩
  case rest =>
    clear HC4
    try clear c1
    try clear p2
    try clear c4
    try clear c8
    try clear c8b0
    try clear c8b1
    try clear c14
    try clear c15
    obtain ⟨kq, x18_3, rfl, HA, HJ3, HO_3, HO_4, HB⟩ := hcut
    cases kq with
    | zero => exact absurd HA.out (by simp [barrowlaw26_SettlePairs.j0])
    | succ kj3 =>
      have H := HA.out
      clear HA
      simp only [barrowlaw26_SettlePairs.j0] at H
      by_cases c16 : x18_3 = true
      · subst c16
        have H1 : (some false) = some r := by rw [if_pos rfl] at H; exact H
        clear H
        have H := H1
        clear H1
        obtain rfl := Option.some.inj H
        go_wp2
        go_ret
        exact ⟨by first | rfl | (simp [errW_none, errW_some] <;> rfl) | (simp [*, errW_none, errW_some] <;> rfl), by repeat (first | (with_reducible first | exact HB.out | apply below_alloc | apply pw_below_drewN | apply below_drew1) | exact HB.out)⟩
      · replace c16 := Bool.eq_false_iff.mpr c16
        subst c16
        have H1 : (barrowlaw26_SettlePairs.l0 kj3 a0 t119 t122 (t119.length : Int) 0) = some r := by rw [if_neg (show ¬ (false = true) by decide)] at H; exact H
        clear H
        have H := H1
        clear H1
        have H' := Aside0.mk H
        clear H
        obtain ⟨Ao17, co17, eo17⟩ := Kd.R_slice HO_3.out
        subst eo17
        go_wp2
        go_loopg [21] kj3 (fun kq v21 w' => ∃ (x3_2 : List (S26)) (x21_2 : Int), v21 = .int .i64 x21_2 ∧ Aside0 (barrowlaw26_SettlePairs.l0 kq a0 x3_2 t122 (t119.length : Int) x21_2 = some r) ∧ Aside0 (kq ≤ kj3) ∧ Aside0 (Kd.R k26 26 w' w.heap.size (fun _ => True) (.slice Ao17 t119.length co17) x3_2) ∧ Aside0 (Kd.R k60 60 w' w.heap.size (fun _ => True) v123 t122) ∧ Aside0 (Below w.heap.size w w'))
        case atStart => exact ⟨(t119), (0), (by first | rfl | (simp; done) | (simp [*]; done)), H', ⟨Nat.le_refl _⟩, ⟨by (with_reducible repeat (first | apply Kd.R_alloc | apply Kd.R_drewN | apply Kd.R_drew)); exact HO_3.out⟩, ⟨by (with_reducible repeat (first | apply Kd.R_alloc | apply Kd.R_drewN | apply Kd.R_drew)); exact HO_4.out⟩, ⟨by repeat (first | (with_reducible first | exact HB.out | apply below_alloc | apply pw_below_drewN | apply below_drew1) | exact HB.out)⟩⟩
        case round =>
          clear H'
          try clear c1
          try clear p2
          try clear c4
          try clear c8
          try clear c8b0
          try clear c8b1
          try clear c14
          try clear c15
          try clear c16
          try clear p2
          obtain ⟨x3_2, x21_2, rfl, HA, HK2, HO_3, HO_4, HB⟩ := hrel
          have hl3_2 := (Kd.R_reads' HO_3.out).1
          rw [hl3_2] at HO_3
          (try simp only [hl3_2])
          (try simp only [hl3_2] at HO_4)
          cases gk with
          | zero => exact absurd HA.out (by simp [barrowlaw26_SettlePairs.l0])
          | succ k2 =>
            have H := HA.out
            clear HA
            simp only [barrowlaw26_SettlePairs.l0] at H
            by_cases c18 : x21_2 < (t119.length : Int)
            · rw [if_pos c18] at H
              have c18b0 : decide (x21_2 < (t119.length : Int)) = true := decide_eq_true c18
              clear c18
              by_cases c19 : 0 ≤ x21_2
              · rw [if_pos c19] at H
                have c19b0 : decide (0 ≤ x21_2) = true := decide_eq_true c19
                clear c19
                by_cases c20 : x21_2 < (x3_2.length : Int)
                · rw [if_pos c20] at H
                  have c20b0 : decide (x21_2 < (x3_2.length : Int)) = true := decide_eq_true c20
                  clear c20
                  obtain ⟨y129, hy129⟩ : ∃ y_ : List (S26), y_ = (x3_2.set (x21_2 : Int).toNat (⟨(-1), (-2)⟩ : S26)) := ⟨_, rfl⟩
                  replace H : (barrowlaw26_SettlePairs.l0 k2 a0 y129 t122 (t119.length : Int) (wrap64 (x21_2 + 1))) = some r := by first | (rw [hy129]; with_reducible exact H) | (have H2_ := (Option.bind_some _ _).symm.trans H; rw [hy129]; with_reducible exact H2_) | (have H2_ := (Option.bind_some _ _).symm.trans H; with_reducible exact H2_) | with_reducible exact H | (rw [hy129]; exact H) | exact H
                  have Ny129 := Aside0.mk hy129
                  clear hy129
                  have H' := Aside0.mk H
                  clear H
                  have p21 : 0 ≤ (x21_2 : Int) := of_decide_eq_true (by first | (with_reducible assumption) | assumption)
                  have q21 : (x21_2 : Int) < ((x3_2.length : Int) : Int) := of_decide_eq_true (by first | (with_reducible assumption) | assumption)
                  obtain ⟨go21, co21, eo21, gb21, gl21, cl21, HG21⟩ := Kd.R_form HO_3.out (by omega)
                  (first | cases eo21 | (injection eo21 with ea_ en_ ec_; (first | subst ea_ | (injection ea_ with ea_; subst ea_)); subst ec_; clear en_))
                  have GB21 := Aside0.mk gb21
                  have GG21 := Aside0.mk HG21
                  clear gb21 gl21 HG21
                  obtain ⟨ce21, hcl21, hM21, hcc21, hfr21⟩ := Kd.R_elem HO_3.out z26 (x21_2 : Int) p21 q21
                  obtain rfl := k26_openM hM21
                  have hx21_0 : wr.cell? ⟨go21, (x21_2 : Int).toNat * 2, none⟩ = some (.int .i64 ((rd_T26 x3_2 x21_2).f0)) := hcc21 0 _ rfl
                  have hx21_1 : wr.cell? ⟨go21, (x21_2 : Int).toNat * 2 + 1, none⟩ = some (.int .i64 ((rd_T26 x3_2 x21_2).f1)) := hcc21 1 _ rfl
                  have hf21_0 : wr.frozen? ⟨go21, (x21_2 : Int).toNat * 2, none⟩ = false := hfr21 0
                  have hf21_1 : wr.frozen? ⟨go21, (x21_2 : Int).toNat * 2 + 1, none⟩ = false := hfr21 1
                  clear hcl21 hcc21 hfr21 hM21
                  replace p21 := eq_true p21
                  replace q21 := eq_true q21
                  have HX22 := Aside0.mk (show Kd.R k26 26 wr w.heap.size (fun _ => True) (.slice (some ⟨go21, 0, none⟩) x3_2.length co17) x3_2 from (by (with_reducible repeat (first | apply Kd.R_alloc | apply Kd.R_drewN | apply Kd.R_drew)); exact HO_3.out))
                  obtain ⟨ce22, hcl22, hM22, hcc22, hfr22⟩ := Kd.R_elem HX22.out z26 (x21_2 : Int) (of_decide_eq_true (by first | (with_reducible assumption) | assumption)) (by have h_ : (x21_2 : Int) < ((x3_2.length : Int) : Int) := of_decide_eq_true (by first | (with_reducible assumption) | assumption); first | exact h_ | (have e_ := (Kd.R_reads' HO_3.out).1; omega) | simpa using h_)
                  obtain rfl := k26_openM hM22
                  have HP22 := Kd.R_seg HX22.out (x21_2 : Int) (of_decide_eq_true (by first | (with_reducible assumption) | assumption)) (by have h_ : (x21_2 : Int) < ((x3_2.length : Int) : Int) := of_decide_eq_true (by first | (with_reducible assumption) | assumption); first | exact h_ | (have e_ := (Kd.R_reads' HO_3.out).1; omega) | simpa using h_) (seg := [.int .i64 (-1), .int .i64 (-2)]) (j := 0) hcl22 hcc22 (show 2 ≤ 2 from by decide) (x' := (⟨(-1), (-2)⟩ : S26)) (k26_mkM _ _ _ (⟨(-1), (-2)⟩ : S26) ) (fun _ hk => hk)
                  have hx22_0 := hcc22 0 _ rfl
                  (try simp only [show (k26).sz = 2 from rfl, Nat.mul_one, Nat.add_zero] at hx22_0)
                  have hf22_0 := hfr22 0
                  (try simp only [show (k26).sz = 2 from rfl, Nat.mul_one, Nat.add_zero] at hf22_0)
                  have hx22_1 := hcc22 1 _ rfl
                  (try simp only [show (k26).sz = 2 from rfl, Nat.mul_one, Nat.add_zero] at hx22_1)
                  have hf22_1 := hfr22 1
                  (try simp only [show (k26).sz = 2 from rfl, Nat.mul_one, Nat.add_zero] at hf22_1)
                  clear hcl22 hcc22 hfr22 hM22
                  go_wp2_with (first | ((with_reducible refine gate_store (t := 26) (p := 27) rfl ?_); refine store_event (t := 26) (p := 27) (v := ?vo_w23) (w1 := ((wr.setCell ⟨go21, (x21_2 : Int).toNat * 2, none⟩ (.int .i64 (-1))).setCell ⟨go21, (x21_2 : Int).toNat * 2 + 1, none⟩ (.int .i64 (-2)))) ?hg ?ho ?hn ?hr ?_; (case ho => rfl); (case hg => rfl); (case hn => rfl); (case hr => first | (go_simp; done) | (go_simp; rfl)); intro w23 hw; have hg : wr.grownBy w23 (some go21) := (by rw [hw]; exact HP22.2); have hp_ : Kd.R k26 26 w23 w.heap.size (fun _ => True) (.slice (some ⟨go21, 0, none⟩) x3_2.length co17) y129 := (by rw [hw, Ny129.out]; exact HP22.1); clear HP22; have n0_ := Aside0.mk (hp_); have n1_ := Aside0.mk (Kd.R_over' (v := (.slice (some ⟨go21, 0, none⟩) x3_2.length co17)) (by (with_reducible repeat (first | apply Kd.R_alloc | apply Kd.R_drewN | apply Kd.R_drew)); exact HO_4.out) (Kd.R_typed HO_3.out) (by decide) hg); have n2_ := Aside0.mk ((by rw [hw]; exact below_set (below_set (HB.out) GB21.out) GB21.out : Below w.heap.size w w23)); clear HO_3; clear HO_4; clear HB; have HO_3 := n0_; have HO_4 := n1_; have HB := n2_; clear n0_ n1_ n2_; clear hg hw hp_))
                  (try simp only [← hl3_2])
                  go_roundg k2
                  case measure => have := HJ3.out; have := HK2.out; omega
                  case rel => exact ⟨(y129), (wrap64 (x21_2 + 1)), (by first | rfl | (simp; done) | (simp [*]; done)), H', ⟨by have := HJ3.out; have := HK2.out; omega⟩, ⟨by (try simp only [hl3_2]); (with_reducible repeat (first | apply Kd.R_alloc | apply Kd.R_drewN | apply Kd.R_drew)); exact HO_3.out⟩, ⟨by (try simp only [hl3_2]); (with_reducible repeat (first | apply Kd.R_alloc | apply Kd.R_drewN | apply Kd.R_drew)); exact HO_4.out⟩, ⟨by repeat (first | (with_reducible first | exact HB.out | apply below_alloc | apply pw_below_drewN | apply below_drew1) | exact HB.out)⟩⟩
                · rw [if_neg c20] at H
                  exact absurd H (by simp)
              · rw [if_neg c19] at H
                exact absurd H (by simp)
            · rw [if_neg c18] at H
              have c18b0 : decide (x21_2 < (t119.length : Int)) = false := decide_eq_false c18
              clear c18
              rw [hl3_2] at c18b0
              by_cases c24 : x3_2.length < 8796093022208
              · rw [if_pos c24] at H
                have LMc24 := Aside0.mk c24
                clear c24
                obtain ⟨y130, hy130⟩ : ∃ y_ : List (S26), y_ = (x3_2 ++ [(⟨(-3), (-4)⟩ : S26)]) := ⟨_, rfl⟩
                replace H : ((settle_Pairs.f k2 a0).bind fun t133 => ((barrowlaw26_samePairs.f k2 t133 t122).bind fun t136 => (some t136))) = some r := by first | (rw [hy130]; with_reducible exact H) | (have H2_ := (Option.bind_some _ _).symm.trans H; rw [hy130]; with_reducible exact H2_) | (have H2_ := (Option.bind_some _ _).symm.trans H; with_reducible exact H2_) | with_reducible exact H | (rw [hy130]; exact H) | exact H
                have Ny130 := Aside0.mk hy130
                clear hy130
                replace H := Option.bind_eq_some_iff.mp H
                obtain ⟨t133, A250, H⟩ := H
                replace H : ((barrowlaw26_samePairs.f k2 t133 t122).bind fun t136 => (some t136)) = some r := H
                have A25 := Aside0.mk A250
                clear A250
                replace H := Option.bind_eq_some_iff.mp H
                obtain ⟨t136, A260, H⟩ := H
                replace H : (some t136) = some r := H
                have A26 := Aside0.mk A260
                clear A260
                obtain rfl := Option.some.inj H
                go_wp2_with (first | ((with_reducible refine gate_builtin (b := .append) (xs := #[.tmp 29, .tmp 31]) rfl ?_); at_builtin; refine Kd.R_append k26 (w0 := w) w.heap.size rfl (.tmp 29) (.tmp 31) 22 26 (.agg #[(.int .i64 0), (.int .i64 0)]) 16 rfl Try.underlying22 info26 rfl (by decide) (by omega) (.slice Ao17 x3_2.length co17) x3_2 (⟨(-3), (-4)⟩ : S26) [.int .i64 (-3), .int .i64 (-4)] (fun _ => True) (fun _ => False) rfl rfl ?aP (fun _ hk => hk.elim) ?aF ?aO ?aB ?aS ?aL ?_; (case aP => exact k26_mkM _ _ _ (⟨(-3), (-4)⟩ : S26)); (case aB => exact (by repeat (first | (with_reducible first | exact HB.out | apply below_alloc | apply pw_below_drewN | apply below_drew1) | exact HB.out))); (case aF => exact (fun _ _ => trivial)); (case aO => exact (by (with_reducible repeat (first | apply Kd.R_alloc | apply Kd.R_drewN | apply Kd.R_drew)); exact HO_3.out)); (case aS => exact (below_size (by repeat (first | (with_reducible first | exact HB.out | apply below_alloc | apply pw_below_drewN | apply below_drew1) | exact HB.out)))); (case aL => have := LMc24.out; omega); intro v131 w27 ho hb hg hat; rw [← Ny130.out] at ho; have n0_ := Aside0.mk (Kd.R_over' (by (with_reducible repeat (first | apply Kd.R_alloc | apply Kd.R_drewN | apply Kd.R_drew)); exact HO_4.out) (Kd.R_typed (by (with_reducible repeat (first | apply Kd.R_alloc | apply Kd.R_drewN | apply Kd.R_drew)); exact HO_3.out)) (by decide) hg); have n1_ := Aside0.mk (hb); have n2_ := Aside0.mk (ho); clear HO_4; clear HB; clear HO_3; have HO_4 := n0_; have HB := n1_; have HO132 := n2_; clear n0_ n1_ n2_; clear ho hb hg hat) | ((with_reducible refine gate_callee (f := 14) rfl ?_); refine goesL_ (some 34) rfl rfl Try.func14 (by kernel_rfl) rfl #[.int .i64 a0] rfl (by (try simp only [List.map_toArray, List.map_cons, List.map_nil]); first | done | rfl | (simp only [List.length_drop, List.length_take]; rfl)) ?_; (with_reducible refine (settle_Pairs.calls k2 a0 t133 _ A25.out).mono ?_); rintro e w28 ⟨v134, rfl, ho0, hb⟩; refine ⟨_, rfl, ?_⟩; have n0_ := Aside0.mk (Kd.R_below (by (with_reducible repeat (first | apply Kd.R_alloc | apply Kd.R_drewN | apply Kd.R_drew)); exact HO_4.out) hb); have n1_ := Aside0.mk (Kd.R_elder' (by (with_reducible repeat (first | apply Kd.R_alloc | apply Kd.R_drewN | apply Kd.R_drew)); exact HO132.out) (Kd.R_base ho0) hb); have n2_ := Aside0.mk (Kd.R_lower (Kd.R_new' ho0 (Kd.R_lt (by (with_reducible repeat (first | apply Kd.R_alloc | apply Kd.R_drewN | apply Kd.R_drew)); exact HO132.out))) (below_size (by repeat (first | (with_reducible first | exact HB.out | apply below_alloc | apply pw_below_drewN | apply below_drew1) | exact HB.out)))); have n3_ := Aside0.mk (below_step (by repeat (first | (with_reducible first | exact HB.out | apply below_alloc | apply pw_below_drewN | apply below_drew1) | exact HB.out)) hb); clear HO_4; clear HO132; clear HB; have HO_4 := n0_; have HO132 := n1_; have HO135 := n2_; have HB := n3_; clear n0_ n1_ n2_ n3_; (try clear hb); (try clear hb2); (try clear hk); (try clear hi); (try clear ho0); obtain ⟨Ao29, co29, eo29⟩ := Kd.R_slice HO135.out; subst eo29; obtain ⟨Ao30, co30, eo30⟩ := Kd.R_slice HO_4.out; subst eo30) | ((with_reducible refine gate_callee (f := 16) rfl ?_); refine goesL_ (some 36) rfl rfl Try.func16 (by kernel_rfl) rfl #[.slice Ao29 t133.length co29, .slice Ao30 t122.length co30] rfl (by (try simp only [List.map_toArray, List.map_cons, List.map_nil]); first | done | rfl | (simp only [List.length_drop, List.length_take]; rfl)) ?_; (with_reducible refine (barrowlaw26_samePairs.calls k2 _ _ t133 _ _ t122 t136 _ ?side1 ?side2 ?side3 ?side4 A26.out).mono ?_); (case side1 => repeat (first | exact (Kd.R_reads' HO135.out).2.2 | (with_reducible refine Kd.C_alloc ?_ _) | (with_reducible refine Kd.C_drewN ?_ _) | (with_reducible refine Kd.C_drew ?_))); (case side2 => exact (Kd.R_reads' HO135.out).2.1); (case side3 => repeat (first | exact (Kd.R_reads' HO_4.out).2.2 | (with_reducible refine Kd.C_alloc ?_ _) | (with_reducible refine Kd.C_drewN ?_ _) | (with_reducible refine Kd.C_drew ?_))); (case side4 => exact (Kd.R_reads' HO_4.out).2.1); rintro e w' ⟨rfl, ⟨nd, rfl⟩⟩; refine ⟨_, rfl, ?_⟩))
                go_ret
                exact ⟨by first | rfl | (simp [errW_none, errW_some] <;> rfl) | (simp [*, errW_none, errW_some] <;> rfl), by repeat (first | (with_reducible first | exact HB.out | apply below_alloc | apply pw_below_drewN | apply below_drew1) | exact HB.out)⟩
              · rw [if_neg c24] at H
                exact absurd H (by simp)

/-- THE ONE PURE STATEMENT of barrowlaw26_SettlePairs: yours. -/
def barrowlaw26_SettlePairs.Pure : Prop := ∀ (a0 : Int), (Lit.int .i64 a0).wf = true → ∃ k, barrowlaw26_SettlePairs.f k a0 = some true
theorem barrowlaw26_SettlePairs.walk (P : barrowlaw26_SettlePairs.Pure) (a0 : Int) (w : World) (w0 : (Lit.int .i64 a0).wf = true) :
    Calls Try.prog 4 #[.int .i64 a0] w fun e w' => e = .returned (.bool true) ∧ Below w.heap.size w w' := by
  obtain ⟨k, h⟩ := P a0 w0
  refine (barrowlaw26_SettlePairs.calls k a0 true w h).mono ?_
  rintro e w' ⟨rfl, hd⟩
  exact ⟨rfl, hd⟩

end Go.Proofs.Ythpdemfehkoniaa.PSettlePairs
