/- Walks of functions of the layer settle and of its reference, out of the kit's print (turned: the header off, the lengths' equations laid). -/
import Derived.Test.YthpdemfehkoniaaSet0
import Derived.Test.YthpdemfehkoniaaSet3
namespace Go.Proofs.Ythpdemfehkoniaa.PSet
open Go.RowKit Go.Proofs.YthpdemfehkoniaaW.PrintWords Go.Proofs.YthpdemfehkoniaaW.PrintLast Go.Proofs.YthpdemfehkoniaaW.PrintMore
attribute [local go_sem] max2_int min2_int max_two min_two max_three min_three max_four min_four   -- for this text's walks alone
set_option linter.unusedVariables false
set_option linter.unusedSimpArgs false

/-! ### barrowlaw26_shuffled: function 28 -/
mutual
def barrowlaw26_shuffled.l0 : Nat → List Int → List (S26) → Int → Option ((List (S26)))
  | 0, _, _, _ => none
  | k + 1, x1, x5, x6 => if x6 < (x5.length : Int) then (barrowlaw26_shuffled.j1 k x1 x5 x6 (decide (x6 < (x1.length : Int)))) else (barrowlaw26_shuffled.j1 k x1 x5 x6 false)
def barrowlaw26_shuffled.j1 : Nat → List Int → List (S26) → Int → Bool → Option ((List (S26)))
  | 0, _, _, _, _ => none
  | k + 1, x1, x5, x6, x19 => if x19 = true then (if 0 ≤ x6 then (if x6 < (x1.length : Int) then (if (x5.length : Int) = 0 then (none) else (if (Int.tmod (rd x1 x6) (x5.length : Int)) < 0 then (if 0 ≤ (wrap64 ((Int.tmod (rd x1 x6) (x5.length : Int)) + (x5.length : Int))) then (if (wrap64 ((Int.tmod (rd x1 x6) (x5.length : Int)) + (x5.length : Int))) < (x5.length : Int) then (if x6 < (x5.length : Int) then (barrowlaw26_shuffled.l0 k x1 ((x5.set (x6 : Int).toNat (⟨(rd_T26 x5 (wrap64 ((Int.tmod (rd x1 x6) (x5.length : Int)) + (x5.length : Int)))).f0, (rd_T26 x5 (wrap64 ((Int.tmod (rd x1 x6) (x5.length : Int)) + (x5.length : Int)))).f1⟩ : S26)).set ((wrap64 ((Int.tmod (rd x1 x6) (x5.length : Int)) + (x5.length : Int))) : Int).toNat (⟨(rd_T26 x5 x6).f0, (rd_T26 x5 x6).f1⟩ : S26)) (wrap64 (x6 + 1))) else (none)) else (none)) else (none)) else (if 0 ≤ (Int.tmod (rd x1 x6) (x5.length : Int)) then (if (Int.tmod (rd x1 x6) (x5.length : Int)) < (x5.length : Int) then (if x6 < (x5.length : Int) then (barrowlaw26_shuffled.l0 k x1 ((x5.set (x6 : Int).toNat (⟨(rd_T26 x5 (Int.tmod (rd x1 x6) (x5.length : Int))).f0, (rd_T26 x5 (Int.tmod (rd x1 x6) (x5.length : Int))).f1⟩ : S26)).set ((Int.tmod (rd x1 x6) (x5.length : Int)) : Int).toNat (⟨(rd_T26 x5 x6).f0, (rd_T26 x5 x6).f1⟩ : S26)) (wrap64 (x6 + 1))) else (none)) else (none)) else (none)))) else (none)) else (none)) else (some x5)
end
def barrowlaw26_shuffled.f (k : Nat) (l0 : List (S26)) (l1 : List Int) : Option ((List (S26))) := (barrowlaw26_copyPairs.f l0).bind fun t287 => (barrowlaw26_shuffled.l0 k l1 t287 0)
theorem barrowlaw26_shuffled.mono_l : ∀ k, (∀ y0 y1 y2, LeO (barrowlaw26_shuffled.l0 k y0 y1 y2) (barrowlaw26_shuffled.l0 (k + 1) y0 y1 y2)) ∧ (∀ y0 y1 y2 y3, LeO (barrowlaw26_shuffled.j1 k y0 y1 y2 y3) (barrowlaw26_shuffled.j1 (k + 1) y0 y1 y2 y3))
  | 0 => ⟨fun _ _ _ r h => by simp [barrowlaw26_shuffled.l0] at h, fun _ _ _ _ r h => by simp [barrowlaw26_shuffled.j1] at h⟩
  | k + 1 => by
    obtain ⟨ih0, ih1⟩ := barrowlaw26_shuffled.mono_l k
    refine ⟨?_, ?_⟩
    · intro y0 y1 y2
      unfold barrowlaw26_shuffled.l0
      repeat' first
      | (with_reducible exact ih0 _ _ _)
      | (with_reducible exact ih1 _ _ _ _)
      | (with_reducible exact LeO.refl _)
      | (with_reducible exact LeO.none _)
      | (with_reducible refine LeO.ite ?_ ?_)
      | (with_reducible refine LeO.bind ?_ (fun _ => ?_))
      | exact ih0 _ _ _
      | exact ih1 _ _ _ _
      | exact LeO.none _
      | refine LeO.ite ?_ ?_
      | refine LeO.bind ?_ (fun _ => ?_)
    · intro y0 y1 y2 y3
      unfold barrowlaw26_shuffled.j1
      repeat' first
      | (with_reducible exact ih0 _ _ _)
      | (with_reducible exact ih1 _ _ _ _)
      | (with_reducible exact LeO.refl _)
      | (with_reducible exact LeO.none _)
      | (with_reducible refine LeO.ite ?_ ?_)
      | (with_reducible refine LeO.bind ?_ (fun _ => ?_))
      | exact ih0 _ _ _
      | exact ih1 _ _ _ _
      | exact LeO.none _
      | refine LeO.ite ?_ ?_
      | refine LeO.bind ?_ (fun _ => ?_)
theorem barrowlaw26_shuffled.mono : ∀ a0 a1 k, LeO (barrowlaw26_shuffled.f k a0 a1) (barrowlaw26_shuffled.f (k + 1) a0 a1) := by
  intro a0 a1 k
  obtain ⟨ih0, ih1⟩ := barrowlaw26_shuffled.mono_l k
  unfold barrowlaw26_shuffled.f
  repeat' first
      | (with_reducible exact ih0 _ _ _)
      | (with_reducible exact ih1 _ _ _ _)
      | (with_reducible exact LeO.refl _)
      | (with_reducible exact LeO.none _)
      | (with_reducible refine LeO.ite ?_ ?_)
      | (with_reducible refine LeO.bind ?_ (fun _ => ?_))
      | exact ih0 _ _ _
      | exact ih1 _ _ _ _
      | exact LeO.none _
      | refine LeO.ite ?_ ?_
      | refine LeO.bind ?_ (fun _ => ?_)
def barrowlaw26_shuffled.T8 : Bool × List (List Nat × List Nat) := (true, [([], []), ([], []), ([], []), ([], []), ([], []), ([], []), ([4, 5], [4, 5]), ([6], [6]), ([], []), ([], []), ([8, 9], [8, 9]), ([10], [10]), ([0, 1, 0, 1, 4, 5, 6, 7, 11], [0, 1]), ([12, 7, 0, 1, 4, 5, 6, 7, 11], [7, 12]), ([2, 3, 0, 1, 2, 3, 4, 5, 6, 7, 8, 9, 10, 11, 12, 13], [2, 3]), ([14, 11, 13, 0, 1, 2, 3, 4, 5, 6, 7, 8, 9, 10, 11, 12, 13], [11, 14])])
def barrowlaw26_shuffled.B8 : List Nat := [0, 0, 0, 0, 0, 0, 48, 112, 0, 0, 768, 1792, 4083, 8179, 16383, 32767]
theorem barrowlaw26_shuffled.tab8 : rtab .any (opsOf Try.f28 8) = barrowlaw26_shuffled.T8 := by kernel_rfl
theorem barrowlaw26_shuffled.bits8 : waitsOk barrowlaw26_shuffled.T8.2 barrowlaw26_shuffled.B8 = true := by kernel_rfl
set_option maxHeartbeats 8000000 in
set_option maxRecDepth 100000 in
theorem barrowlaw26_shuffled.calls (k : Nat) (A0 : Option Addr) (c0 : Nat) (l0 : List (S26)) (A1 : Option Addr) (c1 : Nat) (l1 : List Int) (r : List (S26)) (w : World) (hr0 : Kd.C k26 w A0 l0.length l0) (hc0 : l0.length ≤ c0) (hr1 : Kd.C (Kd.int .i64) w A1 l1.length l1) (hc1 : l1.length ≤ c1) (h : barrowlaw26_shuffled.f k l0 l1 = some r) :
    Calls Try.prog 28 #[.slice A0 l0.length c0, .slice A1 l1.length c1] w fun e w' => ∃ v0_ : Value, e = .returned (v0_) ∧ Kd.R k26 26 w' w.heap.size (fun _ => True) v0_ r ∧ Below w.heap.size w w' := by
  have hu26 := Try.underlying26
  have HR0 := Aside0.mk hr0
  have HC0 := Aside0.mk hc0
  clear hr0 hc0
  have HR1 := Aside0.mk hr1
  have HC1 := Aside0.mk hc1
  clear hr1 hc1
  have HB := Aside0.mk (Below.refl w.heap.size w)
  have H : ((barrowlaw26_copyPairs.f l0).bind fun t287 => (barrowlaw26_shuffled.l0 k l1 t287 0)) = some r := h
  clear h
  replace H := Option.bind_eq_some_iff.mp H
  obtain ⟨t287, A30, H⟩ := H
  replace H : (barrowlaw26_shuffled.l0 k l1 t287 0) = some r := H
  have A3 := Aside0.mk A30
  clear A30
  have H' := Aside0.mk H
  clear H
  go_enter Try.func28, Try.ntmps28
  go_wp2_with (first | ((with_reducible refine gate_callee (f := 12) rfl ?_); refine goesL_ (some 9) rfl rfl Try.func12 (by kernel_rfl) rfl #[.slice A0 l0.length c0] rfl (by (try simp only [List.map_toArray, List.map_cons, List.map_nil]); first | done | rfl | (simp only [List.length_drop, List.length_take]; rfl)) ?_; (with_reducible refine (barrowlaw26_copyPairs.calls _ _ l0 t287 _ ?side1 ?side2 A3.out).mono ?_); (case side1 => repeat (first | exact HR0.out | (with_reducible refine Kd.C_alloc ?_ _) | (with_reducible refine Kd.C_drewN ?_ _) | (with_reducible refine Kd.C_drew ?_))); (case side2 => exact HC0.out); rintro e w4 ⟨v288, rfl, ho0, hb⟩; refine ⟨_, rfl, ?_⟩; have n0_ := Aside0.mk (Kd.R_lower ho0 (below_size (by repeat (first | (with_reducible first | exact HB.out | apply below_alloc | apply pw_below_drewN | apply below_drew1) | exact HB.out)))); have n1_ := Aside0.mk (below_step (by repeat (first | (with_reducible first | exact HB.out | apply below_alloc | apply pw_below_drewN | apply below_drew1) | exact HB.out)) hb); clear HB; have HO289 := n0_; have HB := n1_; clear n0_ n1_; (try clear hb); (try clear hb2); (try clear hk); (try clear hi); (try clear ho0)))
  go_loopg [6] k (fun kq v6 w' => ∃ (x5_1 : List (S26)) (x6_1 : Int), v6 = .int .i64 x6_1 ∧ Aside0 (barrowlaw26_shuffled.l0 kq l1 x5_1 x6_1 = some r) ∧ Aside0 (kq ≤ k) ∧ Aside0 (Kd.R k26 26 w' w.heap.size (fun _ => True) v288 x5_1) ∧ Aside0 (Below w.heap.size w w'))
  case atStart => exact ⟨(t287), (0), (by first | rfl | (simp; done) | (simp [*]; done)), H', ⟨Nat.le_refl _⟩, ⟨by (with_reducible repeat (first | apply Kd.R_alloc | apply Kd.R_drewN | apply Kd.R_drew)); exact HO289.out⟩, ⟨by repeat (first | (with_reducible first | exact HB.out | apply below_alloc | apply pw_below_drewN | apply below_drew1) | exact HB.out)⟩⟩
  case round =>
    clear H'
    try clear c1
    try clear c2
    try clear p2
    obtain ⟨x5_1, x6_1, rfl, HA, HK1, HO_5, HB⟩ := hrel
    cases gk with
    | zero => exact absurd HA.out (by simp [barrowlaw26_shuffled.l0])
    | succ k1 =>
      have H := HA.out
      clear HA
      simp only [barrowlaw26_shuffled.l0] at H
      have HC5 := Aside0.mk H
      clear H
      go_upto_region 3 with (fail)
      go_cut [19] (fun v19 wc => ∃ (kq : Nat) (x19_4 : Bool), v19 = .bool x19_4 ∧ Aside0 (barrowlaw26_shuffled.j1 kq l1 x5_1 x6_1 x19_4 = some r) ∧ Aside0 (kq ≤ k1) ∧ Aside0 (Kd.R k26 26 wc w.heap.size (fun _ => True) v288 x5_1) ∧ Aside0 (Below w.heap.size w wc))
      case first =>
        have H := HC5.out
        clear HC5
        by_cases c6 : x6_1 < (x5_1.length : Int)
        · rw [if_pos c6] at H
          have c6b0 : decide (x6_1 < (x5_1.length : Int)) = true := decide_eq_true c6
          clear c6
          (first | rw [c6b0] | (simp only [i64_w, i32_w]; rw [c6b0]) | skip)
          have H' := Aside0.mk H
          clear H
          obtain ⟨Ao7, co7, eo7⟩ := Kd.R_slice HO_5.out
          subst eo7
          go_wp2
          go_meet
          case rel => exact ⟨_, (decide (x6_1 < (l1.length : Int))), (by first | rfl | (simp; done) | (simp [*]; done)), H', ⟨by have := HK1.out; first | omega | exact Nat.le_refl _⟩, ⟨by (with_reducible repeat (first | apply Kd.R_alloc | apply Kd.R_drewN | apply Kd.R_drew)); exact HO_5.out⟩, ⟨by repeat (first | (with_reducible first | exact HB.out | apply below_alloc | apply pw_below_drewN | apply below_drew1) | exact HB.out)⟩⟩
        · rw [if_neg c6] at H
          have c6b0 : decide (x6_1 < (x5_1.length : Int)) = false := decide_eq_false c6
          clear c6
          (first | rw [c6b0] | (simp only [i64_w, i32_w]; rw [c6b0]) | skip)
          have H' := Aside0.mk H
          clear H
          obtain ⟨Ao8, co8, eo8⟩ := Kd.R_slice HO_5.out
          subst eo8
          go_wp2
          go_meet
          case rel => exact ⟨_, (false), (by first | rfl | (simp; done) | (simp [*]; done)), H', ⟨by have := HK1.out; first | omega | exact Nat.le_refl _⟩, ⟨by (with_reducible repeat (first | apply Kd.R_alloc | apply Kd.R_drewN | apply Kd.R_drew)); exact HO_5.out⟩, ⟨by repeat (first | (with_reducible first | exact HB.out | apply below_alloc | apply pw_below_drewN | apply below_drew1) | exact HB.out)⟩⟩
      case rest =>
        clear HC5
        try clear c1
        try clear c2
        try clear p2
        try clear c6
        try clear c6b0
        try clear p2
        obtain ⟨kq, x19_4, rfl, HA, HJ4, HO_5, HB⟩ := hcut
        cases kq with
        | zero => exact absurd HA.out (by simp [barrowlaw26_shuffled.j1])
        | succ kj4 =>
          have H := HA.out
          clear HA
          simp only [barrowlaw26_shuffled.j1] at H
          by_cases c9 : x19_4 = true
          · subst c9
            have H1 : (if 0 ≤ x6_1 then (if x6_1 < (l1.length : Int) then (if (x5_1.length : Int) = 0 then (none) else (if (Int.tmod (rd l1 x6_1) (x5_1.length : Int)) < 0 then (if 0 ≤ (wrap64 ((Int.tmod (rd l1 x6_1) (x5_1.length : Int)) + (x5_1.length : Int))) then (if (wrap64 ((Int.tmod (rd l1 x6_1) (x5_1.length : Int)) + (x5_1.length : Int))) < (x5_1.length : Int) then (if x6_1 < (x5_1.length : Int) then (barrowlaw26_shuffled.l0 kj4 l1 ((x5_1.set (x6_1 : Int).toNat (⟨(rd_T26 x5_1 (wrap64 ((Int.tmod (rd l1 x6_1) (x5_1.length : Int)) + (x5_1.length : Int)))).f0, (rd_T26 x5_1 (wrap64 ((Int.tmod (rd l1 x6_1) (x5_1.length : Int)) + (x5_1.length : Int)))).f1⟩ : S26)).set ((wrap64 ((Int.tmod (rd l1 x6_1) (x5_1.length : Int)) + (x5_1.length : Int))) : Int).toNat (⟨(rd_T26 x5_1 x6_1).f0, (rd_T26 x5_1 x6_1).f1⟩ : S26)) (wrap64 (x6_1 + 1))) else (none)) else (none)) else (none)) else (if 0 ≤ (Int.tmod (rd l1 x6_1) (x5_1.length : Int)) then (if (Int.tmod (rd l1 x6_1) (x5_1.length : Int)) < (x5_1.length : Int) then (if x6_1 < (x5_1.length : Int) then (barrowlaw26_shuffled.l0 kj4 l1 ((x5_1.set (x6_1 : Int).toNat (⟨(rd_T26 x5_1 (Int.tmod (rd l1 x6_1) (x5_1.length : Int))).f0, (rd_T26 x5_1 (Int.tmod (rd l1 x6_1) (x5_1.length : Int))).f1⟩ : S26)).set ((Int.tmod (rd l1 x6_1) (x5_1.length : Int)) : Int).toNat (⟨(rd_T26 x5_1 x6_1).f0, (rd_T26 x5_1 x6_1).f1⟩ : S26)) (wrap64 (x6_1 + 1))) else (none)) else (none)) else (none)))) else (none)) else (none)) = some r := by rw [if_pos rfl] at H; exact H
            clear H
            have H := H1
            clear H1
            by_cases c10 : 0 ≤ x6_1
            · rw [if_pos c10] at H
              have c10b0 : decide (0 ≤ x6_1) = true := decide_eq_true c10
              clear c10
              by_cases c11 : x6_1 < (l1.length : Int)
              · rw [if_pos c11] at H
                have c11b0 : decide (x6_1 < (l1.length : Int)) = true := decide_eq_true c11
                clear c11
                by_cases c12 : (x5_1.length : Int) = 0
                · rw [if_pos c12] at H
                  exact absurd H (by simp)
                · rw [if_neg c12] at H
                  have c12b0 : ((x5_1.length : Int) == 0) = false := beq_eq_false_iff_ne.mpr c12
                  have c12b1 : ((x5_1.length : Int) != 0) = true := bne_iff_ne.mpr c12
                  have c12b2 : ¬ (x5_1 = []) := fun h_ => c12 (by rw [h_]; rfl)
                  by_cases c13 : (Int.tmod (rd l1 x6_1) (x5_1.length : Int)) < 0
                  · rw [if_pos c13] at H
                    have c13b0 : decide ((Int.tmod (rd l1 x6_1) (x5_1.length : Int)) < 0) = true := decide_eq_true c13
                    clear c13
                    obtain ⟨ji14, hji14⟩ : ∃ j_ : Int, (wrap64 ((Int.tmod (rd l1 x6_1) (x5_1.length : Int)) + (x5_1.length : Int))) = j_ := ⟨_, rfl⟩
                    replace H : (if 0 ≤ (ji14) then (if (ji14) < (x5_1.length : Int) then (if x6_1 < (x5_1.length : Int) then (barrowlaw26_shuffled.l0 kj4 l1 ((x5_1.set (x6_1 : Int).toNat (⟨(rd_T26 x5_1 (ji14)).f0, (rd_T26 x5_1 (ji14)).f1⟩ : S26)).set ((ji14) : Int).toNat (⟨(rd_T26 x5_1 x6_1).f0, (rd_T26 x5_1 x6_1).f1⟩ : S26)) (wrap64 (x6_1 + 1))) else (none)) else (none)) else (none)) = some r := by first | (rw [hji14] at H; exact H) | (simp only [hji14] at H ⊢; exact H)
                    have hji14w : (IntKind.i64.wrap ((Int.tmod (rd l1 x6_1) (x5_1.length : Int)) + (x5_1.length : Int))) = ji14 := (i64_w _).trans hji14
                    by_cases c15 : 0 ≤ (ji14)
                    · rw [if_pos c15] at H
                      have c15b0 : decide (0 ≤ (ji14)) = true := decide_eq_true c15
                      clear c15
                      by_cases c16 : (ji14) < (x5_1.length : Int)
                      · rw [if_pos c16] at H
                        have c16b0 : decide ((ji14) < (x5_1.length : Int)) = true := decide_eq_true c16
                        clear c16
                        by_cases c17 : x6_1 < (x5_1.length : Int)
                        · rw [if_pos c17] at H
                          have c17b0 : decide (x6_1 < (x5_1.length : Int)) = true := decide_eq_true c17
                          clear c17
                          obtain ⟨y293, hy293⟩ : ∃ y_ : List (S26), y_ = (x5_1.set (x6_1 : Int).toNat (⟨(rd_T26 x5_1 (ji14)).f0, (rd_T26 x5_1 (ji14)).f1⟩ : S26)) := ⟨_, rfl⟩
                          replace H : (barrowlaw26_shuffled.l0 kj4 l1 (y293.set ((ji14) : Int).toNat (⟨(rd_T26 x5_1 x6_1).f0, (rd_T26 x5_1 x6_1).f1⟩ : S26)) (wrap64 (x6_1 + 1))) = some r := by first | (rw [hy293]; with_reducible exact H) | (have H2_ := (Option.bind_some _ _).symm.trans H; rw [hy293]; with_reducible exact H2_) | (have H2_ := (Option.bind_some _ _).symm.trans H; with_reducible exact H2_) | with_reducible exact H | (rw [hy293]; exact H) | exact H
                          have Ny293 := Aside0.mk hy293
                          clear hy293
                          obtain ⟨y294, hy294⟩ : ∃ y_ : List (S26), y_ = (y293.set ((ji14) : Int).toNat (⟨(rd_T26 x5_1 x6_1).f0, (rd_T26 x5_1 x6_1).f1⟩ : S26)) := ⟨_, rfl⟩
                          replace H : (barrowlaw26_shuffled.l0 kj4 l1 y294 (wrap64 (x6_1 + 1))) = some r := by first | (rw [hy294]; with_reducible exact H) | (have H2_ := (Option.bind_some _ _).symm.trans H; rw [hy294]; with_reducible exact H2_) | (have H2_ := (Option.bind_some _ _).symm.trans H; with_reducible exact H2_) | with_reducible exact H | (rw [hy294]; exact H) | exact H
                          have Ny294 := Aside0.mk hy294
                          clear hy294
                          have H' := Aside0.mk H
                          clear H
                          have p290 : 0 ≤ (x6_1 : Int) := of_decide_eq_true (by first | (with_reducible assumption) | assumption)
                          have q290 : x6_1 < (l1.length : Int) := of_decide_eq_true (by first | (with_reducible assumption) | assumption)
                          obtain ⟨ad290, e290, hx290_0⟩ := Kd.at_int HR1.out x6_1 p290 q290
                          cases e290
                          replace hx290_0 := (HB.out.cell (World.block_lt_of_cell? w _ hx290_0)).trans hx290_0
                          replace p290 := eq_true p290
                          replace q290 := eq_true q290
                          obtain ⟨Ao20, co20, eo20⟩ := Kd.R_slice HO_5.out
                          subst eo20
                          try go_wp2
                          have n0_ := Aside0.mk (Kd.R_drew HO_5.out)
                          have n1_ := Aside0.mk (below_drew1 HB.out)
                          clear HO_5
                          clear HB
                          have HO_5 := n0_
                          have HB := n1_
                          clear n0_ n1_
                          have p291 : 0 ≤ ((ji14) : Int) := of_decide_eq_true (by first | (with_reducible assumption) | assumption)
                          have q291 : (ji14) < (x5_1.length : Int) := of_decide_eq_true (by first | (with_reducible assumption) | assumption)
                          obtain ⟨ad291, e291, hx291_0, hx291_1⟩ := at_T26 (Kd.R_reads' HO_5.out).2.2 (ji14) p291 q291
                          cases e291
                          replace p291 := eq_true p291
                          replace q291 := eq_true q291
                          have p292 : 0 ≤ (x6_1 : Int) := of_decide_eq_true (by first | (with_reducible assumption) | assumption)
                          have q292 : x6_1 < (x5_1.length : Int) := of_decide_eq_true (by first | (with_reducible assumption) | assumption)
                          obtain ⟨ad292, e292, hx292_0, hx292_1⟩ := at_T26 (Kd.R_reads' HO_5.out).2.2 x6_1 p292 q292
                          obtain rfl : ad291 = ad292 := (by injection e292)
                          replace p292 := eq_true p292
                          replace q292 := eq_true q292
                          have p18 : 0 ≤ (x6_1 : Int) := of_decide_eq_true (by first | (with_reducible assumption) | assumption)
                          have q18 : (x6_1 : Int) < ((x5_1.length : Int) : Int) := of_decide_eq_true (by first | (with_reducible assumption) | assumption)
                          obtain ⟨go18, co18, eo18, gb18, gl18, cl18, HG18⟩ := Kd.R_form HO_5.out (by omega)
                          (first | cases eo18 | (injection eo18 with ea_ en_ ec_; (first | subst ea_ | (injection ea_ with ea_; subst ea_)); subst ec_; clear en_))
                          have GB18 := Aside0.mk gb18
                          have GG18 := Aside0.mk HG18
                          clear gb18 gl18 HG18
                          (first | simp only [add_plain] at hx291_0 | skip)
                          (first | simp only [add_plain] at hx291_1 | skip)
                          (first | simp only [add_plain] at hx292_0 | skip)
                          (first | simp only [add_plain] at hx292_1 | skip)
                          obtain ⟨ce18, hcl18, hM18, hcc18, hfr18⟩ := Kd.R_elem HO_5.out z26 (x6_1 : Int) p18 q18
                          obtain rfl := k26_openM hM18
                          have hx18_0 : World.cell? _ ⟨go18, (x6_1 : Int).toNat * 2, none⟩ = some (.int .i64 ((rd_T26 x5_1 x6_1).f0)) := hcc18 0 _ rfl
                          have hx18_1 : World.cell? _ ⟨go18, (x6_1 : Int).toNat * 2 + 1, none⟩ = some (.int .i64 ((rd_T26 x5_1 x6_1).f1)) := hcc18 1 _ rfl
                          have hf18_0 : World.frozen? _ ⟨go18, (x6_1 : Int).toNat * 2, none⟩ = false := hfr18 0
                          have hf18_1 : World.frozen? _ ⟨go18, (x6_1 : Int).toNat * 2 + 1, none⟩ = false := hfr18 1
                          clear hcl18 hcc18 hfr18 hM18
                          replace p18 := eq_true p18
                          replace q18 := eq_true q18
                          obtain ⟨ce22, hcl22, hM22, hcc22, hfr22⟩ := Kd.R_elem HO_5.out z26 (x6_1 : Int) (of_decide_eq_true (by first | (with_reducible assumption) | assumption)) (by have h_ : (x6_1 : Int) < ((x5_1.length : Int) : Int) := of_decide_eq_true (by first | (with_reducible assumption) | assumption); first | exact h_ | (have e_ := (Kd.R_reads' HO_5.out).1; omega) | simpa using h_)
                          obtain rfl := k26_openM hM22
                          have HP22 := (Kd.R_seg HO_5.out (x6_1 : Int) (of_decide_eq_true (by first | (with_reducible assumption) | assumption)) (by have h_ : (x6_1 : Int) < ((x5_1.length : Int) : Int) := of_decide_eq_true (by first | (with_reducible assumption) | assumption); first | exact h_ | (have e_ := (Kd.R_reads' HO_5.out).1; omega) | simpa using h_) (seg := [.int .i64 ((rd_T26 x5_1 (ji14)).f0), .int .i64 ((rd_T26 x5_1 (ji14)).f1)]) (j := 0) hcl22 hcc22 (show 2 ≤ 2 from by decide) (x' := (⟨(rd_T26 x5_1 (ji14)).f0, (rd_T26 x5_1 (ji14)).f1⟩ : S26)) (k26_mkM _ _ _ (⟨(rd_T26 x5_1 (ji14)).f0, (rd_T26 x5_1 (ji14)).f1⟩ : S26) ) (fun _ hk => hk)).1
                          rw [← Ny293.out] at HP22
                          have HQ22 := Aside0.mk HP22
                          clear hcl22 hcc22 hfr22 hM22 HP22
                          have p19 : 0 ≤ ((ji14) : Int) := of_decide_eq_true (by first | (with_reducible assumption) | assumption)
                          have q19 : ((ji14) : Int) < ((x5_1.length : Int) : Int) := of_decide_eq_true (by first | (with_reducible assumption) | assumption)
                          obtain ⟨ce19, hcl19, hM19, hcc19, hfr19⟩ := Kd.R_elem HQ22.out z26 ((ji14) : Int) p19 q19
                          obtain rfl := k26_openM hM19
                          have hx19_0 : World.cell? _ ⟨go18, ((ji14) : Int).toNat * 2, none⟩ = some (.int .i64 ((rd_T26 y293 (ji14)).f0)) := hcc19 0 _ rfl
                          have hx19_1 : World.cell? _ ⟨go18, ((ji14) : Int).toNat * 2 + 1, none⟩ = some (.int .i64 ((rd_T26 y293 (ji14)).f1)) := hcc19 1 _ rfl
                          have hf19_0 : World.frozen? _ ⟨go18, ((ji14) : Int).toNat * 2, none⟩ = false := hfr19 0
                          have hf19_1 : World.frozen? _ ⟨go18, ((ji14) : Int).toNat * 2 + 1, none⟩ = false := hfr19 1
                          clear hcl19 hcc19 hfr19 hM19
                          replace p19 := eq_true p19
                          replace q19 := eq_true q19
                          obtain ⟨ce23, hcl23, hM23, hcc23, hfr23⟩ := Kd.R_elem HQ22.out z26 ((ji14) : Int) (of_decide_eq_true (by first | (with_reducible assumption) | assumption)) (by have h_ : ((ji14) : Int) < ((x5_1.length : Int) : Int) := of_decide_eq_true (by first | (with_reducible assumption) | assumption); first | exact h_ | (have e_ := (Kd.R_reads' HO_5.out).1; omega) | simpa using h_)
                          obtain rfl := k26_openM hM23
                          have HP23 := (Kd.R_seg HQ22.out ((ji14) : Int) (of_decide_eq_true (by first | (with_reducible assumption) | assumption)) (by have h_ : ((ji14) : Int) < ((x5_1.length : Int) : Int) := of_decide_eq_true (by first | (with_reducible assumption) | assumption); first | exact h_ | (have e_ := (Kd.R_reads' HO_5.out).1; omega) | simpa using h_) (seg := [.int .i64 ((rd_T26 x5_1 x6_1).f0), .int .i64 ((rd_T26 x5_1 x6_1).f1)]) (j := 0) hcl23 hcc23 (show 2 ≤ 2 from by decide) (x' := (⟨(rd_T26 x5_1 x6_1).f0, (rd_T26 x5_1 x6_1).f1⟩ : S26)) (k26_mkM _ _ _ (⟨(rd_T26 x5_1 x6_1).f0, (rd_T26 x5_1 x6_1).f1⟩ : S26) ) (fun _ hk => hk)).1
                          rw [← Ny294.out] at HP23
                          have HQ23 := Aside0.mk HP23
                          clear hcl23 hcc23 hfr23 hM23 HP23
                          refine start_ (n := 16) (S := fun w' => w'.cell? ⟨go18, (((ji14)).toNat * 2), none⟩ = some (.int .i64 ((rd_T26 x5_1 (ji14)).f0)) ∧ w'.cell? ⟨go18, ((((ji14)).toNat * 2)) + 1, none⟩ = some (.int .i64 ((rd_T26 x5_1 (ji14)).f1)) ∧ w'.cell? ⟨go18, ((x6_1).toNat * 2), none⟩ = some (.int .i64 ((rd_T26 x5_1 x6_1).f0)) ∧ w'.cell? ⟨go18, ((x6_1).toNat * 2) + 1, none⟩ = some (.int .i64 ((rd_T26 x5_1 x6_1).f1))) (ds := [13, 15]) #[false, false, false, false, false, false, false, false, false, false, false, false, false, false, false, false] (by kernel_rfl) rfl rfl ⟨hx291_0, hx291_1, hx292_0, hx292_1⟩ (fun hHeld => ?_); refine with_tabW barrowlaw26_shuffled.tab8 barrowlaw26_shuffled.bits8 (fun HT_ HW_ => ?_)
                          generalize wc.drew = w21 at HO_5 HB GG18 HQ22 HQ23 hf18_0 hf18_1 hf19_0 hf19_1 hx18_0 hx18_1 hx19_0 hx19_1 hx291_0 hx291_1 hx292_0 hx292_1 hHeld ⊢
                          refine pure_ (i := 0) (N := some 35) (v := ?_) (a' := ?_) #[true, false, false, false, false, false, false, false, false, false, false, false, false, false, false, false] rfl rfl (any_of HT_.out (by kernel_rfl)) (fun _ _ _ h => h) (Or.inl ⟨by rfl, ?_⟩) ?_ ?_
                          rotate_left
                          · intro w'
                            go_simp
                            with_reducible rfl
                          rotate_left
                          · simp only [Act.put, List.setIfInBounds_toArray, List.set_cons_zero, List.set_cons_succ, i64_w, i32_w]
                            rfl
                          refine pure_ (i := 1) (N := some 36) (v := ?_) (a' := ?_) #[true, true, false, false, false, false, false, false, false, false, false, false, false, false, false, false] rfl rfl (any_of HT_.out (by kernel_rfl)) (fun _ _ _ h => h) (Or.inl ⟨by rfl, ?_⟩) ?_ ?_
                          rotate_left
                          · intro w'
                            go_simp
                            with_reducible rfl
                          rotate_left
                          · simp only [Act.put, List.setIfInBounds_toArray, List.set_cons_zero, List.set_cons_succ, i64_w, i32_w]
                            rfl
                          refine pure_ (i := 2) (N := some 37) (v := ?_) (a' := ?_) #[true, true, true, false, false, false, false, false, false, false, false, false, false, false, false, false] rfl rfl (any_of HT_.out (by kernel_rfl)) (fun _ _ _ h => h) (Or.inl ⟨by rfl, ?_⟩) ?_ ?_
                          rotate_left
                          · intro w'
                            go_simp
                            with_reducible rfl
                          rotate_left
                          · simp only [Act.put, List.setIfInBounds_toArray, List.set_cons_zero, List.set_cons_succ, i64_w, i32_w]
                            rfl
                          refine pure_ (i := 3) (N := some 38) (v := ?_) (a' := ?_) #[true, true, true, true, false, false, false, false, false, false, false, false, false, false, false, false] rfl rfl (any_of HT_.out (by kernel_rfl)) (fun _ _ _ h => h) (Or.inl ⟨by rfl, ?_⟩) ?_ ?_
                          rotate_left
                          · intro w'
                            go_simp
                            with_reducible rfl
                          rotate_left
                          · simp only [Act.put, List.setIfInBounds_toArray, List.set_cons_zero, List.set_cons_succ, i64_w, i32_w]
                            rfl
                          refine pure_ (i := 4) (N := some 39) (v := ?_) (a' := ?_) #[true, true, true, true, true, false, false, false, false, false, false, false, false, false, false, false] rfl rfl (any_of HT_.out (by kernel_rfl)) (fun _ _ _ h => h) (Or.inl ⟨by rfl, ?_⟩) ?_ ?_
                          rotate_left
                          · intro w'
                            go_simp
                            with_reducible rfl
                          rotate_left
                          · simp only [Act.put, List.setIfInBounds_toArray, List.set_cons_zero, List.set_cons_succ, i64_w, i32_w]
                            rfl
                          refine pure_ (i := 5) (N := some 40) (v := ?_) (a' := ?_) #[true, true, true, true, true, true, false, false, false, false, false, false, false, false, false, false] rfl rfl (any_of HT_.out (by kernel_rfl)) (fun _ _ _ h => h) (Or.inl ⟨by rfl, ?_⟩) ?_ ?_
                          rotate_left
                          · intro w'
                            go_simp
                            with_reducible rfl
                          rotate_left
                          · simp only [Act.put, List.setIfInBounds_toArray, List.set_cons_zero, List.set_cons_succ, i64_w, i32_w]
                            rfl
                          refine pure_ (i := 6) (N := some 41) (v := ?_) (a' := ?_) #[true, true, true, true, true, true, true, false, false, false, false, false, false, false, false, false] rfl rfl (any_of HT_.out (by kernel_rfl)) (fun _ _ _ h => h) (Or.inl ⟨by rfl, ?_⟩) ?_ ?_
                          rotate_left
                          · intro w'
                            go_simp
                            with_reducible rfl
                          rotate_left
                          · simp only [Act.put, List.setIfInBounds_toArray, List.set_cons_zero, List.set_cons_succ, i64_w, i32_w]
                            rfl
                          refine pure_ (i := 8) (N := some 43) (v := ?_) (a' := ?_) #[true, true, true, true, true, true, true, false, true, false, false, false, false, false, false, false] rfl rfl (any_of HT_.out (by kernel_rfl)) (fun _ _ _ h => h) (Or.inl ⟨by rfl, ?_⟩) ?_ ?_
                          rotate_left
                          · intro w'
                            go_simp
                            with_reducible rfl
                          rotate_left
                          · simp only [Act.put, List.setIfInBounds_toArray, List.set_cons_zero, List.set_cons_succ, i64_w, i32_w]
                            rfl
                          refine pure_ (i := 9) (N := some 44) (v := ?_) (a' := ?_) #[true, true, true, true, true, true, true, false, true, true, false, false, false, false, false, false] rfl rfl (any_of HT_.out (by kernel_rfl)) (fun _ _ _ h => h) (Or.inl ⟨by rfl, ?_⟩) ?_ ?_
                          rotate_left
                          · intro w'
                            go_simp
                            with_reducible rfl
                          rotate_left
                          · simp only [Act.put, List.setIfInBounds_toArray, List.set_cons_zero, List.set_cons_succ, i64_w, i32_w]
                            rfl
                          refine pure_ (i := 10) (N := some 45) (v := ?_) (a' := ?_) #[true, true, true, true, true, true, true, false, true, true, true, false, false, false, false, false] rfl rfl (any_of HT_.out (by kernel_rfl)) (fun _ _ _ h => h) (Or.inl ⟨by rfl, ?_⟩) ?_ ?_
                          rotate_left
                          · intro w'
                            go_simp
                            with_reducible rfl
                          rotate_left
                          · simp only [Act.put, List.setIfInBounds_toArray, List.set_cons_zero, List.set_cons_succ, i64_w, i32_w]
                            rfl
                          refine take_ (i := 7) (N := some 42) (v := ?_) (a' := ?_) #[true, true, true, true, true, true, true, true, true, true, true, false, false, false, false, false] rfl rfl (take_ofW HT_.out HW_.out (by kernel_rfl)) (fun _ _ _ h => h) (Or.inl ⟨by rfl, ?_⟩) hHeld ?_ ?_
                          rotate_left
                          · rintro w' ⟨s0, s1, s2, s3⟩
                            go_simp
                            with_reducible rfl
                          rotate_left
                          · simp only [Act.put, List.setIfInBounds_toArray, List.set_cons_zero, List.set_cons_succ, i64_w, i32_w]
                            rfl
                          refine take_ (i := 11) (N := some 46) (v := ?_) (a' := ?_) #[true, true, true, true, true, true, true, true, true, true, true, true, false, false, false, false] rfl rfl (take_ofW HT_.out HW_.out (by kernel_rfl)) (fun _ _ _ h => h) (Or.inl ⟨by rfl, ?_⟩) hHeld ?_ ?_
                          rotate_left
                          · rintro w' ⟨s0, s1, s2, s3⟩
                            go_simp
                            with_reducible rfl
                          rotate_left
                          · simp only [Act.put, List.setIfInBounds_toArray, List.set_cons_zero, List.set_cons_succ, i64_w, i32_w]
                            rfl
                          refine pure_ (i := 12) (N := some 47) (v := ?_) (a' := ?_) #[true, true, true, true, true, true, true, true, true, true, true, true, true, false, false, false] rfl rfl (any_of HT_.out (by kernel_rfl)) (fun _ _ _ h => h) (Or.inl ⟨by rfl, ?_⟩) ?_ ?_
                          rotate_left
                          · intro w'
                            go_simp
                            with_reducible rfl
                          rotate_left
                          · simp only [Act.put, List.setIfInBounds_toArray, List.set_cons_zero, List.set_cons_succ, i64_w, i32_w]
                            rfl
                          refine last_ (i := 13) (N := none) #[true, true, true, true, true, true, true, true, true, true, true, true, true, true, false, false] rfl rfl (one_of HT_.out (by kernel_rfl)) (by decide) (fun K hK => ?_)
                          refine skip_ (w1 := ?_) (by rfl) rfl ?_ ?_
                          rotate_left
                          · go_simp
                            rfl
                          refine hK.out _ _ ?_
                          clear hK K
                          refine pure_ (i := 14) (N := some 48) (v := ?_) (a' := ?_) #[true, true, true, true, true, true, true, true, true, true, true, true, true, true, true, false] rfl rfl (any_of HT_.out (by kernel_rfl)) (fun _ _ _ h => h) (Or.inl ⟨by rfl, ?_⟩) ?_ ?_
                          rotate_left
                          · intro w'
                            go_simp
                            with_reducible rfl
                          rotate_left
                          · simp only [Act.put, List.setIfInBounds_toArray, List.set_cons_zero, List.set_cons_succ, i64_w, i32_w]
                            rfl
                          simp [World.setCells, show k26.sz = 2 from rfl, go_sem] at hx19_0 hx19_1 hf19_0 hf19_1
                          refine last_ (i := 15) (N := none) #[true, true, true, true, true, true, true, true, true, true, true, true, true, true, true, true] rfl rfl (one_of HT_.out (by kernel_rfl)) (by decide) (fun K hK => ?_)
                          refine skip_ (w1 := ?_) (by rfl) rfl ?_ ?_
                          rotate_left
                          · go_simp
                            rfl
                          refine hK.out _ _ ?_
                          clear hK K
                          refine done_ (done_of HT_.out (by kernel_rfl)) ?_
                          try go_wp2
                          go_roundg kj4
                          case measure => have := HK1.out; have := HJ4.out; omega
                          case rel => exact ⟨(y294), (wrap64 (x6_1 + 1)), (by first | rfl | (simp; done) | (simp [*]; done)), H', ⟨by have := HK1.out; have := HJ4.out; omega⟩, ⟨by (with_reducible repeat (first | apply Kd.R_alloc | apply Kd.R_drewN | apply Kd.R_drew)); exact HQ23.out⟩, ⟨by repeat (first | (with_reducible first | exact HB.out | apply below_alloc | apply pw_below_drewN | apply below_drew1 | refine below_set ?_ GB18.out | refine below_set ?_ GB18.out | refine below_set ?_ GB18.out | refine below_set ?_ GB18.out) | exact HB.out)⟩⟩
                        · rw [if_neg c17] at H
                          exact absurd H (by simp)
                      · rw [if_neg c16] at H
                        exact absurd H (by simp)
                    · rw [if_neg c15] at H
                      exact absurd H (by simp)
                  · rw [if_neg c13] at H
                    have c13b0 : decide ((Int.tmod (rd l1 x6_1) (x5_1.length : Int)) < 0) = false := decide_eq_false c13
                    clear c13
                    obtain ⟨ji24, hji24⟩ : ∃ j_ : Int, (Int.tmod (rd l1 x6_1) (x5_1.length : Int)) = j_ := ⟨_, rfl⟩
                    replace H : (if 0 ≤ (ji24) then (if (ji24) < (x5_1.length : Int) then (if x6_1 < (x5_1.length : Int) then (barrowlaw26_shuffled.l0 kj4 l1 ((x5_1.set (x6_1 : Int).toNat (⟨(rd_T26 x5_1 (ji24)).f0, (rd_T26 x5_1 (ji24)).f1⟩ : S26)).set ((ji24) : Int).toNat (⟨(rd_T26 x5_1 x6_1).f0, (rd_T26 x5_1 x6_1).f1⟩ : S26)) (wrap64 (x6_1 + 1))) else (none)) else (none)) else (none)) = some r := by first | (rw [hji24] at H; exact H) | (simp only [hji24] at H ⊢; exact H)
                    (try rw [hji24] at c13b0)
                    by_cases c25 : 0 ≤ (ji24)
                    · rw [if_pos c25] at H
                      have c25b0 : decide (0 ≤ (ji24)) = true := decide_eq_true c25
                      clear c25
                      by_cases c26 : (ji24) < (x5_1.length : Int)
                      · rw [if_pos c26] at H
                        have c26b0 : decide ((ji24) < (x5_1.length : Int)) = true := decide_eq_true c26
                        clear c26
                        by_cases c27 : x6_1 < (x5_1.length : Int)
                        · rw [if_pos c27] at H
                          have c27b0 : decide (x6_1 < (x5_1.length : Int)) = true := decide_eq_true c27
                          clear c27
                          obtain ⟨y297, hy297⟩ : ∃ y_ : List (S26), y_ = (x5_1.set (x6_1 : Int).toNat (⟨(rd_T26 x5_1 (ji24)).f0, (rd_T26 x5_1 (ji24)).f1⟩ : S26)) := ⟨_, rfl⟩
                          replace H : (barrowlaw26_shuffled.l0 kj4 l1 (y297.set ((ji24) : Int).toNat (⟨(rd_T26 x5_1 x6_1).f0, (rd_T26 x5_1 x6_1).f1⟩ : S26)) (wrap64 (x6_1 + 1))) = some r := by first | (rw [hy297]; with_reducible exact H) | (have H2_ := (Option.bind_some _ _).symm.trans H; rw [hy297]; with_reducible exact H2_) | (have H2_ := (Option.bind_some _ _).symm.trans H; with_reducible exact H2_) | with_reducible exact H | (rw [hy297]; exact H) | exact H
                          have Ny297 := Aside0.mk hy297
                          clear hy297
                          obtain ⟨y298, hy298⟩ : ∃ y_ : List (S26), y_ = (y297.set ((ji24) : Int).toNat (⟨(rd_T26 x5_1 x6_1).f0, (rd_T26 x5_1 x6_1).f1⟩ : S26)) := ⟨_, rfl⟩
                          replace H : (barrowlaw26_shuffled.l0 kj4 l1 y298 (wrap64 (x6_1 + 1))) = some r := by first | (rw [hy298]; with_reducible exact H) | (have H2_ := (Option.bind_some _ _).symm.trans H; rw [hy298]; with_reducible exact H2_) | (have H2_ := (Option.bind_some _ _).symm.trans H; with_reducible exact H2_) | with_reducible exact H | (rw [hy298]; exact H) | exact H
                          have Ny298 := Aside0.mk hy298
                          clear hy298
                          have H' := Aside0.mk H
                          clear H
                          have p290 : 0 ≤ (x6_1 : Int) := of_decide_eq_true (by first | (with_reducible assumption) | assumption)
                          have q290 : x6_1 < (l1.length : Int) := of_decide_eq_true (by first | (with_reducible assumption) | assumption)
                          obtain ⟨ad290, e290, hx290_0⟩ := Kd.at_int HR1.out x6_1 p290 q290
                          cases e290
                          replace hx290_0 := (HB.out.cell (World.block_lt_of_cell? w _ hx290_0)).trans hx290_0
                          replace p290 := eq_true p290
                          replace q290 := eq_true q290
                          obtain ⟨Ao30, co30, eo30⟩ := Kd.R_slice HO_5.out
                          subst eo30
                          try go_wp2
                          have n0_ := Aside0.mk (Kd.R_drew HO_5.out)
                          have n1_ := Aside0.mk (below_drew1 HB.out)
                          clear HO_5
                          clear HB
                          have HO_5 := n0_
                          have HB := n1_
                          clear n0_ n1_
                          have p295 : 0 ≤ ((ji24) : Int) := of_decide_eq_true (by first | (with_reducible assumption) | assumption)
                          have q295 : (ji24) < (x5_1.length : Int) := of_decide_eq_true (by first | (with_reducible assumption) | assumption)
                          obtain ⟨ad295, e295, hx295_0, hx295_1⟩ := at_T26 (Kd.R_reads' HO_5.out).2.2 (ji24) p295 q295
                          cases e295
                          replace p295 := eq_true p295
                          replace q295 := eq_true q295
                          have p296 : 0 ≤ (x6_1 : Int) := of_decide_eq_true (by first | (with_reducible assumption) | assumption)
                          have q296 : x6_1 < (x5_1.length : Int) := of_decide_eq_true (by first | (with_reducible assumption) | assumption)
                          obtain ⟨ad296, e296, hx296_0, hx296_1⟩ := at_T26 (Kd.R_reads' HO_5.out).2.2 x6_1 p296 q296
                          obtain rfl : ad295 = ad296 := (by injection e296)
                          replace p296 := eq_true p296
                          replace q296 := eq_true q296
                          have p28 : 0 ≤ (x6_1 : Int) := of_decide_eq_true (by first | (with_reducible assumption) | assumption)
                          have q28 : (x6_1 : Int) < ((x5_1.length : Int) : Int) := of_decide_eq_true (by first | (with_reducible assumption) | assumption)
                          obtain ⟨go28, co28, eo28, gb28, gl28, cl28, HG28⟩ := Kd.R_form HO_5.out (by omega)
                          (first | cases eo28 | (injection eo28 with ea_ en_ ec_; (first | subst ea_ | (injection ea_ with ea_; subst ea_)); subst ec_; clear en_))
                          have GB28 := Aside0.mk gb28
                          have GG28 := Aside0.mk HG28
                          clear gb28 gl28 HG28
                          (first | simp only [add_plain] at hx295_0 | skip)
                          (first | simp only [add_plain] at hx295_1 | skip)
                          (first | simp only [add_plain] at hx296_0 | skip)
                          (first | simp only [add_plain] at hx296_1 | skip)
                          obtain ⟨ce28, hcl28, hM28, hcc28, hfr28⟩ := Kd.R_elem HO_5.out z26 (x6_1 : Int) p28 q28
                          obtain rfl := k26_openM hM28
                          have hx28_0 : World.cell? _ ⟨go28, (x6_1 : Int).toNat * 2, none⟩ = some (.int .i64 ((rd_T26 x5_1 x6_1).f0)) := hcc28 0 _ rfl
                          have hx28_1 : World.cell? _ ⟨go28, (x6_1 : Int).toNat * 2 + 1, none⟩ = some (.int .i64 ((rd_T26 x5_1 x6_1).f1)) := hcc28 1 _ rfl
                          have hf28_0 : World.frozen? _ ⟨go28, (x6_1 : Int).toNat * 2, none⟩ = false := hfr28 0
                          have hf28_1 : World.frozen? _ ⟨go28, (x6_1 : Int).toNat * 2 + 1, none⟩ = false := hfr28 1
                          clear hcl28 hcc28 hfr28 hM28
                          replace p28 := eq_true p28
                          replace q28 := eq_true q28
                          obtain ⟨ce32, hcl32, hM32, hcc32, hfr32⟩ := Kd.R_elem HO_5.out z26 (x6_1 : Int) (of_decide_eq_true (by first | (with_reducible assumption) | assumption)) (by have h_ : (x6_1 : Int) < ((x5_1.length : Int) : Int) := of_decide_eq_true (by first | (with_reducible assumption) | assumption); first | exact h_ | (have e_ := (Kd.R_reads' HO_5.out).1; omega) | simpa using h_)
                          obtain rfl := k26_openM hM32
                          have HP32 := (Kd.R_seg HO_5.out (x6_1 : Int) (of_decide_eq_true (by first | (with_reducible assumption) | assumption)) (by have h_ : (x6_1 : Int) < ((x5_1.length : Int) : Int) := of_decide_eq_true (by first | (with_reducible assumption) | assumption); first | exact h_ | (have e_ := (Kd.R_reads' HO_5.out).1; omega) | simpa using h_) (seg := [.int .i64 ((rd_T26 x5_1 (ji24)).f0), .int .i64 ((rd_T26 x5_1 (ji24)).f1)]) (j := 0) hcl32 hcc32 (show 2 ≤ 2 from by decide) (x' := (⟨(rd_T26 x5_1 (ji24)).f0, (rd_T26 x5_1 (ji24)).f1⟩ : S26)) (k26_mkM _ _ _ (⟨(rd_T26 x5_1 (ji24)).f0, (rd_T26 x5_1 (ji24)).f1⟩ : S26) ) (fun _ hk => hk)).1
                          rw [← Ny297.out] at HP32
                          have HQ32 := Aside0.mk HP32
                          clear hcl32 hcc32 hfr32 hM32 HP32
                          have p29 : 0 ≤ ((ji24) : Int) := of_decide_eq_true (by first | (with_reducible assumption) | assumption)
                          have q29 : ((ji24) : Int) < ((x5_1.length : Int) : Int) := of_decide_eq_true (by first | (with_reducible assumption) | assumption)
                          obtain ⟨ce29, hcl29, hM29, hcc29, hfr29⟩ := Kd.R_elem HQ32.out z26 ((ji24) : Int) p29 q29
                          obtain rfl := k26_openM hM29
                          have hx29_0 : World.cell? _ ⟨go28, ((ji24) : Int).toNat * 2, none⟩ = some (.int .i64 ((rd_T26 y297 (ji24)).f0)) := hcc29 0 _ rfl
                          have hx29_1 : World.cell? _ ⟨go28, ((ji24) : Int).toNat * 2 + 1, none⟩ = some (.int .i64 ((rd_T26 y297 (ji24)).f1)) := hcc29 1 _ rfl
                          have hf29_0 : World.frozen? _ ⟨go28, ((ji24) : Int).toNat * 2, none⟩ = false := hfr29 0
                          have hf29_1 : World.frozen? _ ⟨go28, ((ji24) : Int).toNat * 2 + 1, none⟩ = false := hfr29 1
                          clear hcl29 hcc29 hfr29 hM29
                          replace p29 := eq_true p29
                          replace q29 := eq_true q29
                          obtain ⟨ce33, hcl33, hM33, hcc33, hfr33⟩ := Kd.R_elem HQ32.out z26 ((ji24) : Int) (of_decide_eq_true (by first | (with_reducible assumption) | assumption)) (by have h_ : ((ji24) : Int) < ((x5_1.length : Int) : Int) := of_decide_eq_true (by first | (with_reducible assumption) | assumption); first | exact h_ | (have e_ := (Kd.R_reads' HO_5.out).1; omega) | simpa using h_)
                          obtain rfl := k26_openM hM33
                          have HP33 := (Kd.R_seg HQ32.out ((ji24) : Int) (of_decide_eq_true (by first | (with_reducible assumption) | assumption)) (by have h_ : ((ji24) : Int) < ((x5_1.length : Int) : Int) := of_decide_eq_true (by first | (with_reducible assumption) | assumption); first | exact h_ | (have e_ := (Kd.R_reads' HO_5.out).1; omega) | simpa using h_) (seg := [.int .i64 ((rd_T26 x5_1 x6_1).f0), .int .i64 ((rd_T26 x5_1 x6_1).f1)]) (j := 0) hcl33 hcc33 (show 2 ≤ 2 from by decide) (x' := (⟨(rd_T26 x5_1 x6_1).f0, (rd_T26 x5_1 x6_1).f1⟩ : S26)) (k26_mkM _ _ _ (⟨(rd_T26 x5_1 x6_1).f0, (rd_T26 x5_1 x6_1).f1⟩ : S26) ) (fun _ hk => hk)).1
                          rw [← Ny298.out] at HP33
                          have HQ33 := Aside0.mk HP33
                          clear hcl33 hcc33 hfr33 hM33 HP33
                          refine start_ (n := 16) (S := fun w' => w'.cell? ⟨go28, (((ji24)).toNat * 2), none⟩ = some (.int .i64 ((rd_T26 x5_1 (ji24)).f0)) ∧ w'.cell? ⟨go28, ((((ji24)).toNat * 2)) + 1, none⟩ = some (.int .i64 ((rd_T26 x5_1 (ji24)).f1)) ∧ w'.cell? ⟨go28, ((x6_1).toNat * 2), none⟩ = some (.int .i64 ((rd_T26 x5_1 x6_1).f0)) ∧ w'.cell? ⟨go28, ((x6_1).toNat * 2) + 1, none⟩ = some (.int .i64 ((rd_T26 x5_1 x6_1).f1))) (ds := [13, 15]) #[false, false, false, false, false, false, false, false, false, false, false, false, false, false, false, false] (by kernel_rfl) rfl rfl ⟨hx295_0, hx295_1, hx296_0, hx296_1⟩ (fun hHeld => ?_); refine with_tabW barrowlaw26_shuffled.tab8 barrowlaw26_shuffled.bits8 (fun HT_ HW_ => ?_)
                          generalize wc.drew = w31 at HO_5 HB GG28 HQ32 HQ33 hf28_0 hf28_1 hf29_0 hf29_1 hx28_0 hx28_1 hx295_0 hx295_1 hx296_0 hx296_1 hx29_0 hx29_1 hHeld ⊢
                          refine pure_ (i := 0) (N := some 35) (v := ?_) (a' := ?_) #[true, false, false, false, false, false, false, false, false, false, false, false, false, false, false, false] rfl rfl (any_of HT_.out (by kernel_rfl)) (fun _ _ _ h => h) (Or.inl ⟨by rfl, ?_⟩) ?_ ?_
                          rotate_left
                          · intro w'
                            go_simp
                            with_reducible rfl
                          rotate_left
                          · simp only [Act.put, List.setIfInBounds_toArray, List.set_cons_zero, List.set_cons_succ, i64_w, i32_w]
                            rfl
                          refine pure_ (i := 1) (N := some 36) (v := ?_) (a' := ?_) #[true, true, false, false, false, false, false, false, false, false, false, false, false, false, false, false] rfl rfl (any_of HT_.out (by kernel_rfl)) (fun _ _ _ h => h) (Or.inl ⟨by rfl, ?_⟩) ?_ ?_
                          rotate_left
                          · intro w'
                            go_simp
                            with_reducible rfl
                          rotate_left
                          · simp only [Act.put, List.setIfInBounds_toArray, List.set_cons_zero, List.set_cons_succ, i64_w, i32_w]
                            rfl
                          refine pure_ (i := 2) (N := some 37) (v := ?_) (a' := ?_) #[true, true, true, false, false, false, false, false, false, false, false, false, false, false, false, false] rfl rfl (any_of HT_.out (by kernel_rfl)) (fun _ _ _ h => h) (Or.inl ⟨by rfl, ?_⟩) ?_ ?_
                          rotate_left
                          · intro w'
                            go_simp
                            with_reducible rfl
                          rotate_left
                          · simp only [Act.put, List.setIfInBounds_toArray, List.set_cons_zero, List.set_cons_succ, i64_w, i32_w]
                            rfl
                          refine pure_ (i := 3) (N := some 38) (v := ?_) (a' := ?_) #[true, true, true, true, false, false, false, false, false, false, false, false, false, false, false, false] rfl rfl (any_of HT_.out (by kernel_rfl)) (fun _ _ _ h => h) (Or.inl ⟨by rfl, ?_⟩) ?_ ?_
                          rotate_left
                          · intro w'
                            go_simp
                            with_reducible rfl
                          rotate_left
                          · simp only [Act.put, List.setIfInBounds_toArray, List.set_cons_zero, List.set_cons_succ, i64_w, i32_w]
                            rfl
                          refine pure_ (i := 4) (N := some 39) (v := ?_) (a' := ?_) #[true, true, true, true, true, false, false, false, false, false, false, false, false, false, false, false] rfl rfl (any_of HT_.out (by kernel_rfl)) (fun _ _ _ h => h) (Or.inl ⟨by rfl, ?_⟩) ?_ ?_
                          rotate_left
                          · intro w'
                            go_simp
                            with_reducible rfl
                          rotate_left
                          · simp only [Act.put, List.setIfInBounds_toArray, List.set_cons_zero, List.set_cons_succ, i64_w, i32_w]
                            rfl
                          refine pure_ (i := 5) (N := some 40) (v := ?_) (a' := ?_) #[true, true, true, true, true, true, false, false, false, false, false, false, false, false, false, false] rfl rfl (any_of HT_.out (by kernel_rfl)) (fun _ _ _ h => h) (Or.inl ⟨by rfl, ?_⟩) ?_ ?_
                          rotate_left
                          · intro w'
                            go_simp
                            with_reducible rfl
                          rotate_left
                          · simp only [Act.put, List.setIfInBounds_toArray, List.set_cons_zero, List.set_cons_succ, i64_w, i32_w]
                            rfl
                          refine pure_ (i := 6) (N := some 41) (v := ?_) (a' := ?_) #[true, true, true, true, true, true, true, false, false, false, false, false, false, false, false, false] rfl rfl (any_of HT_.out (by kernel_rfl)) (fun _ _ _ h => h) (Or.inl ⟨by rfl, ?_⟩) ?_ ?_
                          rotate_left
                          · intro w'
                            go_simp
                            with_reducible rfl
                          rotate_left
                          · simp only [Act.put, List.setIfInBounds_toArray, List.set_cons_zero, List.set_cons_succ, i64_w, i32_w]
                            rfl
                          refine pure_ (i := 8) (N := some 43) (v := ?_) (a' := ?_) #[true, true, true, true, true, true, true, false, true, false, false, false, false, false, false, false] rfl rfl (any_of HT_.out (by kernel_rfl)) (fun _ _ _ h => h) (Or.inl ⟨by rfl, ?_⟩) ?_ ?_
                          rotate_left
                          · intro w'
                            go_simp
                            with_reducible rfl
                          rotate_left
                          · simp only [Act.put, List.setIfInBounds_toArray, List.set_cons_zero, List.set_cons_succ, i64_w, i32_w]
                            rfl
                          refine pure_ (i := 9) (N := some 44) (v := ?_) (a' := ?_) #[true, true, true, true, true, true, true, false, true, true, false, false, false, false, false, false] rfl rfl (any_of HT_.out (by kernel_rfl)) (fun _ _ _ h => h) (Or.inl ⟨by rfl, ?_⟩) ?_ ?_
                          rotate_left
                          · intro w'
                            go_simp
                            with_reducible rfl
                          rotate_left
                          · simp only [Act.put, List.setIfInBounds_toArray, List.set_cons_zero, List.set_cons_succ, i64_w, i32_w]
                            rfl
                          refine pure_ (i := 10) (N := some 45) (v := ?_) (a' := ?_) #[true, true, true, true, true, true, true, false, true, true, true, false, false, false, false, false] rfl rfl (any_of HT_.out (by kernel_rfl)) (fun _ _ _ h => h) (Or.inl ⟨by rfl, ?_⟩) ?_ ?_
                          rotate_left
                          · intro w'
                            go_simp
                            with_reducible rfl
                          rotate_left
                          · simp only [Act.put, List.setIfInBounds_toArray, List.set_cons_zero, List.set_cons_succ, i64_w, i32_w]
                            rfl
                          refine take_ (i := 7) (N := some 42) (v := ?_) (a' := ?_) #[true, true, true, true, true, true, true, true, true, true, true, false, false, false, false, false] rfl rfl (take_ofW HT_.out HW_.out (by kernel_rfl)) (fun _ _ _ h => h) (Or.inl ⟨by rfl, ?_⟩) hHeld ?_ ?_
                          rotate_left
                          · rintro w' ⟨s0, s1, s2, s3⟩
                            go_simp
                            with_reducible rfl
                          rotate_left
                          · simp only [Act.put, List.setIfInBounds_toArray, List.set_cons_zero, List.set_cons_succ, i64_w, i32_w]
                            rfl
                          refine take_ (i := 11) (N := some 46) (v := ?_) (a' := ?_) #[true, true, true, true, true, true, true, true, true, true, true, true, false, false, false, false] rfl rfl (take_ofW HT_.out HW_.out (by kernel_rfl)) (fun _ _ _ h => h) (Or.inl ⟨by rfl, ?_⟩) hHeld ?_ ?_
                          rotate_left
                          · rintro w' ⟨s0, s1, s2, s3⟩
                            go_simp
                            with_reducible rfl
                          rotate_left
                          · simp only [Act.put, List.setIfInBounds_toArray, List.set_cons_zero, List.set_cons_succ, i64_w, i32_w]
                            rfl
                          refine pure_ (i := 12) (N := some 47) (v := ?_) (a' := ?_) #[true, true, true, true, true, true, true, true, true, true, true, true, true, false, false, false] rfl rfl (any_of HT_.out (by kernel_rfl)) (fun _ _ _ h => h) (Or.inl ⟨by rfl, ?_⟩) ?_ ?_
                          rotate_left
                          · intro w'
                            go_simp
                            with_reducible rfl
                          rotate_left
                          · simp only [Act.put, List.setIfInBounds_toArray, List.set_cons_zero, List.set_cons_succ, i64_w, i32_w]
                            rfl
                          refine last_ (i := 13) (N := none) #[true, true, true, true, true, true, true, true, true, true, true, true, true, true, false, false] rfl rfl (one_of HT_.out (by kernel_rfl)) (by decide) (fun K hK => ?_)
                          refine skip_ (w1 := ?_) (by rfl) rfl ?_ ?_
                          rotate_left
                          · go_simp
                            rfl
                          refine hK.out _ _ ?_
                          clear hK K
                          refine pure_ (i := 14) (N := some 48) (v := ?_) (a' := ?_) #[true, true, true, true, true, true, true, true, true, true, true, true, true, true, true, false] rfl rfl (any_of HT_.out (by kernel_rfl)) (fun _ _ _ h => h) (Or.inl ⟨by rfl, ?_⟩) ?_ ?_
                          rotate_left
                          · intro w'
                            go_simp
                            with_reducible rfl
                          rotate_left
                          · simp only [Act.put, List.setIfInBounds_toArray, List.set_cons_zero, List.set_cons_succ, i64_w, i32_w]
                            rfl
                          simp [World.setCells, show k26.sz = 2 from rfl, go_sem] at hx29_0 hx29_1 hf29_0 hf29_1
                          refine last_ (i := 15) (N := none) #[true, true, true, true, true, true, true, true, true, true, true, true, true, true, true, true] rfl rfl (one_of HT_.out (by kernel_rfl)) (by decide) (fun K hK => ?_)
                          refine skip_ (w1 := ?_) (by rfl) rfl ?_ ?_
                          rotate_left
                          · go_simp
                            rfl
                          refine hK.out _ _ ?_
                          clear hK K
                          refine done_ (done_of HT_.out (by kernel_rfl)) ?_
                          try go_wp2
                          go_roundg kj4
                          case measure => have := HK1.out; have := HJ4.out; omega
                          case rel => exact ⟨(y298), (wrap64 (x6_1 + 1)), (by first | rfl | (simp; done) | (simp [*]; done)), H', ⟨by have := HK1.out; have := HJ4.out; omega⟩, ⟨by (with_reducible repeat (first | apply Kd.R_alloc | apply Kd.R_drewN | apply Kd.R_drew)); exact HQ33.out⟩, ⟨by repeat (first | (with_reducible first | exact HB.out | apply below_alloc | apply pw_below_drewN | apply below_drew1 | refine below_set ?_ GB28.out | refine below_set ?_ GB28.out | refine below_set ?_ GB28.out | refine below_set ?_ GB28.out) | exact HB.out)⟩⟩
                        · rw [if_neg c27] at H
                          exact absurd H (by simp)
                      · rw [if_neg c26] at H
                        exact absurd H (by simp)
                    · rw [if_neg c25] at H
                      exact absurd H (by simp)
              · rw [if_neg c11] at H
                exact absurd H (by simp)
            · rw [if_neg c10] at H
              exact absurd H (by simp)
          · replace c9 := Bool.eq_false_iff.mpr c9
            subst c9
            have H1 : (some x5_1) = some r := by rw [if_neg (show ¬ (false = true) by decide)] at H; exact H
            clear H
            have H := H1
            clear H1
            obtain rfl := Option.some.inj H
            go_wp2
            go_ret
            exact ⟨_, by first | rfl | (simp [errW_none, errW_some] <;> rfl) | (simp [*, errW_none, errW_some] <;> rfl), by (with_reducible repeat (first | apply Kd.R_alloc | apply Kd.R_drewN | apply Kd.R_drew)); exact HO_5.out, by repeat (first | (with_reducible first | exact HB.out | apply below_alloc | apply pw_below_drewN | apply below_drew1) | exact HB.out)⟩

-- NOT PRINTED: function 9 (barrowlaw26_SettleEnough)

end Go.Proofs.Ythpdemfehkoniaa.PSet
