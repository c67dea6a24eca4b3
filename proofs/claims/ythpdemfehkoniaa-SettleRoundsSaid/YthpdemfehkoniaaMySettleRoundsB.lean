/- SettleRounds: the walk of the statement (turned from the printed text). -/
import Derived.Test.YthpdemfehkoniaaPSettleRoundsx0
import Derived.Test.YthpdemfehkoniaaPSettleRoundsx1
import Derived.Test.YthpdemfehkoniaaMySettleRoundsA
namespace Go.Proofs.Ythpdemfehkoniaa.PSettleRounds
open Go.RowKit Go.Proofs.YthpdemfehkoniaaW.PrintWords Go.Proofs.YthpdemfehkoniaaW.PrintLast Go.Proofs.YthpdemfehkoniaaW.PrintMore
attribute [local go_sem] max2_int min2_int max_two min_two max_three min_three max_four min_four   -- for this text's walks alone
set_option linter.unusedVariables false
set_option linter.unusedSimpArgs false

attribute [local go_sem high] eqA26
/-! ### barrowlaw26_SettleRounds: function 5 -/
mutual
def barrowlaw26_SettleRounds.j0 : Nat → Int → List (List (S26)) → List (List (S60)) → Bool → Option (Bool)
  | 0, _, _, _, _ => none
  | k + 1, x0, x3, x4, x26 => if x26 = true then (some false) else (barrowlaw26_SettleRounds.l0 k x0 x3 x4 (x4.length : Int) 0)
def barrowlaw26_SettleRounds.l0 : Nat → Int → List (List (S26)) → List (List (S60)) → Int → Int → Option (Bool)
  | 0, _, _, _, _, _ => none
  | k + 1, x0, x3, x4, x28, x29 => if x29 < x28 then (if 0 ≤ x29 then (if x29 < (x3.length : Int) then (if x29 < (x4.length : Int) then ((barrowlaw26_samePairs.f k (rd_L3 x3 x29) (rd_L4 x4 x29)).bind fun t137 => (if t137 = true then (barrowlaw26_SettleRounds.l0 k x0 x3 x4 x28 (wrap64 (x29 + 1))) else (some false))) else (none)) else (none)) else (none)) else (barrowlaw26_SettleRounds.l1 k x0 x3 x4 (x3.length : Int) 0)
def barrowlaw26_SettleRounds.l1 : Nat → Int → List (List (S26)) → List (List (S60)) → Int → Int → Option (Bool)
  | 0, _, _, _, _, _ => none
  | k + 1, x0, x3, x4, x44, x45 => if x45 < x44 then (if 0 ≤ x45 then (if x45 < (x3.length : Int) then (barrowlaw26_SettleRounds.l2 k x0 x3 x4 x45 x44 x45 ((rd_L3 x3 x45).length : Int) 0) else (none)) else (none)) else (barrowlaw26_SettleRounds.l3 k x0 x3 x4 (x3.length : Int) 0)
def barrowlaw26_SettleRounds.l2 : Nat → Int → List (List (S26)) → List (List (S60)) → Int → Int → Int → Int → Int → Option (Bool)
  | 0, _, _, _, _, _, _, _, _ => none
  | k + 1, x0, x3, x4, x6, x44, x45, x52, x53 => if x53 < x52 then (if 0 ≤ x6 then (if x6 < (x3.length : Int) then (if 0 ≤ x53 then (if x53 < ((rd_L3 x3 x6).length : Int) then (barrowlaw26_SettleRounds.l2 k x0 (x3.set (x6 : Int).toNat ((rd_L3 x3 x6).set (x53 : Int).toNat (⟨wrap64 ((-1) - x6), x53⟩ : S26))) x4 x6 x44 x45 x52 (wrap64 (x53 + 1))) else (none)) else (none)) else (none)) else (none)) else (barrowlaw26_SettleRounds.l1 k x0 x3 x4 x44 (wrap64 (x45 + 1)))
def barrowlaw26_SettleRounds.l3 : Nat → Int → List (List (S26)) → List (List (S60)) → Int → Int → Option (Bool)
  | 0, _, _, _, _, _ => none
  | k + 1, x0, x3, x4, x69, x70 => if x70 < x69 then (barrowlaw26_SettleRounds.l4 k x0 x3 x4 x70 x69 x70 0) else (barrowlaw26_SettleRounds.l5 k x0 x3 x4 (x3.length : Int) 0)
def barrowlaw26_SettleRounds.l4 : Nat → Int → List (List (S26)) → List (List (S60)) → Int → Int → Int → Int → Option (Bool)
  | 0, _, _, _, _, _, _, _ => none
  | k + 1, x0, x3, x4, x8, x69, x70, x73 => if x73 < 40 then (if 0 ≤ x8 then (if x8 < (x3.length : Int) then (if (rd_L3 x3 x8).length < 8796093022208 then (barrowlaw26_SettleRounds.l4 k x0 (x3.set (x8 : Int).toNat ((rd_L3 x3 x8) ++ [(⟨wrap64 ((-100) - x8), 0⟩ : S26)])) x4 x8 x69 x70 (wrap64 (x73 + 1))) else (none)) else (none)) else (none)) else (barrowlaw26_SettleRounds.l3 k x0 x3 x4 x69 (wrap64 (x70 + 1)))
def barrowlaw26_SettleRounds.l5 : Nat → Int → List (List (S26)) → List (List (S60)) → Int → Int → Option (Bool)
  | 0, _, _, _, _, _ => none
  | k + 1, x0, x3, x4, x90, x91 => if x91 < x90 then (if 0 ≤ x91 then (if x91 < (x4.length : Int) then (barrowlaw26_SettleRounds.l6 k x0 x3 x4 x91 x90 x91 ((rd_L4 x4 x91).length : Int) 0) else (none)) else (none)) else ((settle_Rounds.f k x0).bind fun t151 => (barrowlaw26_SettleRounds.l7 k x4 t151 (x4.length : Int) 0))
def barrowlaw26_SettleRounds.l6 : Nat → Int → List (List (S26)) → List (List (S60)) → Int → Int → Int → Int → Int → Option (Bool)
  | 0, _, _, _, _, _, _, _, _ => none
  | k + 1, x0, x3, x4, x9, x90, x91, x98, x99 => if x99 < x98 then (if 0 ≤ x9 then (if x9 < (x3.length : Int) then (if 0 ≤ x99 then (if x99 < ((rd_L3 x3 x9).length : Int) then (if (!(((rd_T26 (rd_L3 x3 x9) x99).f0) == (wrap64 ((-1) - x9))) || (!(((rd_T26 (rd_L3 x3 x9) x99).f1) == x99))) = true then (some false) else (barrowlaw26_SettleRounds.l6 k x0 x3 x4 x9 x90 x91 x98 (wrap64 (x99 + 1)))) else (none)) else (none)) else (none)) else (none)) else (barrowlaw26_SettleRounds.l5 k x0 x3 x4 x90 (wrap64 (x91 + 1)))
def barrowlaw26_SettleRounds.l7 : Nat → List (List (S60)) → List (List (S26)) → Int → Int → Option (Bool)
  | 0, _, _, _, _ => none
  | k + 1, x4, x11, x119, x120 => if x120 < x119 then (if (x11.length : Int) = (x4.length : Int) then (if 0 ≤ x120 then (if x120 < (x11.length : Int) then (if x120 < (x4.length : Int) then ((barrowlaw26_samePairs.f k (rd_L3 x11 x120) (rd_L4 x4 x120)).bind fun t156 => (if t156 = true then (barrowlaw26_SettleRounds.l7 k x4 x11 x119 (wrap64 (x120 + 1))) else (some false))) else (none)) else (none)) else (none)) else (some false)) else (some true)
end
def barrowlaw26_SettleRounds.f (k : Nat) (a0 : Int) : Option (Bool) := (settle_Rounds.f k a0).bind fun t126 => ((barrowref26_Rounds.f k a0).bind fun t129 => ((settle_Rounds.f k 3).bind fun t132 => (if (t132.length : Int) = 2 then (barrowlaw26_SettleRounds.j0 k a0 t126 t129 ((t126.length : Int) != (t129.length : Int))) else (barrowlaw26_SettleRounds.j0 k a0 t126 t129 true))))
theorem barrowlaw26_SettleRounds.mono_l : ∀ k, (∀ y0 y1 y2 y3, LeO (barrowlaw26_SettleRounds.j0 k y0 y1 y2 y3) (barrowlaw26_SettleRounds.j0 (k + 1) y0 y1 y2 y3)) ∧ (∀ y0 y1 y2 y3 y4, LeO (barrowlaw26_SettleRounds.l0 k y0 y1 y2 y3 y4) (barrowlaw26_SettleRounds.l0 (k + 1) y0 y1 y2 y3 y4)) ∧ (∀ y0 y1 y2 y3 y4, LeO (barrowlaw26_SettleRounds.l1 k y0 y1 y2 y3 y4) (barrowlaw26_SettleRounds.l1 (k + 1) y0 y1 y2 y3 y4)) ∧ (∀ y0 y1 y2 y3 y4 y5 y6 y7, LeO (barrowlaw26_SettleRounds.l2 k y0 y1 y2 y3 y4 y5 y6 y7) (barrowlaw26_SettleRounds.l2 (k + 1) y0 y1 y2 y3 y4 y5 y6 y7)) ∧ (∀ y0 y1 y2 y3 y4, LeO (barrowlaw26_SettleRounds.l3 k y0 y1 y2 y3 y4) (barrowlaw26_SettleRounds.l3 (k + 1) y0 y1 y2 y3 y4)) ∧ (∀ y0 y1 y2 y3 y4 y5 y6, LeO (barrowlaw26_SettleRounds.l4 k y0 y1 y2 y3 y4 y5 y6) (barrowlaw26_SettleRounds.l4 (k + 1) y0 y1 y2 y3 y4 y5 y6)) ∧ (∀ y0 y1 y2 y3 y4, LeO (barrowlaw26_SettleRounds.l5 k y0 y1 y2 y3 y4) (barrowlaw26_SettleRounds.l5 (k + 1) y0 y1 y2 y3 y4)) ∧ (∀ y0 y1 y2 y3 y4 y5 y6 y7, LeO (barrowlaw26_SettleRounds.l6 k y0 y1 y2 y3 y4 y5 y6 y7) (barrowlaw26_SettleRounds.l6 (k + 1) y0 y1 y2 y3 y4 y5 y6 y7)) ∧ (∀ y0 y1 y2 y3, LeO (barrowlaw26_SettleRounds.l7 k y0 y1 y2 y3) (barrowlaw26_SettleRounds.l7 (k + 1) y0 y1 y2 y3))
  | 0 => ⟨fun _ _ _ _ r h => by simp [barrowlaw26_SettleRounds.j0] at h, fun _ _ _ _ _ r h => by simp [barrowlaw26_SettleRounds.l0] at h, fun _ _ _ _ _ r h => by simp [barrowlaw26_SettleRounds.l1] at h, fun _ _ _ _ _ _ _ _ r h => by simp [barrowlaw26_SettleRounds.l2] at h, fun _ _ _ _ _ r h => by simp [barrowlaw26_SettleRounds.l3] at h, fun _ _ _ _ _ _ _ r h => by simp [barrowlaw26_SettleRounds.l4] at h, fun _ _ _ _ _ r h => by simp [barrowlaw26_SettleRounds.l5] at h, fun _ _ _ _ _ _ _ _ r h => by simp [barrowlaw26_SettleRounds.l6] at h, fun _ _ _ _ r h => by simp [barrowlaw26_SettleRounds.l7] at h⟩
  | k + 1 => by
    obtain ⟨ih0, ih1, ih2, ih3, ih4, ih5, ih6, ih7, ih8⟩ := barrowlaw26_SettleRounds.mono_l k
    refine ⟨?_, ?_, ?_, ?_, ?_, ?_, ?_, ?_, ?_⟩
    · intro y0 y1 y2 y3
      unfold barrowlaw26_SettleRounds.j0
      repeat' first
      | (with_reducible exact ih0 _ _ _ _)
      | (with_reducible exact ih1 _ _ _ _ _)
      | (with_reducible exact ih2 _ _ _ _ _)
      | (with_reducible exact ih3 _ _ _ _ _ _ _ _)
      | (with_reducible exact ih4 _ _ _ _ _)
      | (with_reducible exact ih5 _ _ _ _ _ _ _)
      | (with_reducible exact ih6 _ _ _ _ _)
      | (with_reducible exact ih7 _ _ _ _ _ _ _ _)
      | (with_reducible exact ih8 _ _ _ _)
      | (with_reducible exact barrowlaw26_samePairs.mono _ _ _)
      | (with_reducible exact barrowref26_Rounds.mono _ _)
      | (with_reducible exact settle_Rounds.mono _ _)
      | (with_reducible exact LeO.refl _)
      | (with_reducible exact LeO.none _)
      | (with_reducible refine LeO.ite ?_ ?_)
      | (with_reducible refine LeO.bind ?_ (fun _ => ?_))
      | exact ih0 _ _ _ _
      | exact ih1 _ _ _ _ _
      | exact ih2 _ _ _ _ _
      | exact ih3 _ _ _ _ _ _ _ _
      | exact ih4 _ _ _ _ _
      | exact ih5 _ _ _ _ _ _ _
      | exact ih6 _ _ _ _ _
      | exact ih7 _ _ _ _ _ _ _ _
      | exact ih8 _ _ _ _
      | exact barrowlaw26_samePairs.mono _ _ _
      | exact barrowref26_Rounds.mono _ _
      | exact settle_Rounds.mono _ _
      | exact LeO.none _
      | refine LeO.ite ?_ ?_
      | refine LeO.bind ?_ (fun _ => ?_)
    · intro y0 y1 y2 y3 y4
      unfold barrowlaw26_SettleRounds.l0
      repeat' first
      | (with_reducible exact ih0 _ _ _ _)
      | (with_reducible exact ih1 _ _ _ _ _)
      | (with_reducible exact ih2 _ _ _ _ _)
      | (with_reducible exact ih3 _ _ _ _ _ _ _ _)
      | (with_reducible exact ih4 _ _ _ _ _)
      | (with_reducible exact ih5 _ _ _ _ _ _ _)
      | (with_reducible exact ih6 _ _ _ _ _)
      | (with_reducible exact ih7 _ _ _ _ _ _ _ _)
      | (with_reducible exact ih8 _ _ _ _)
      | (with_reducible exact barrowlaw26_samePairs.mono _ _ _)
      | (with_reducible exact barrowref26_Rounds.mono _ _)
      | (with_reducible exact settle_Rounds.mono _ _)
      | (with_reducible exact LeO.refl _)
      | (with_reducible exact LeO.none _)
      | (with_reducible refine LeO.ite ?_ ?_)
      | (with_reducible refine LeO.bind ?_ (fun _ => ?_))
      | exact ih0 _ _ _ _
      | exact ih1 _ _ _ _ _
      | exact ih2 _ _ _ _ _
      | exact ih3 _ _ _ _ _ _ _ _
      | exact ih4 _ _ _ _ _
      | exact ih5 _ _ _ _ _ _ _
      | exact ih6 _ _ _ _ _
      | exact ih7 _ _ _ _ _ _ _ _
      | exact ih8 _ _ _ _
      | exact barrowlaw26_samePairs.mono _ _ _
      | exact barrowref26_Rounds.mono _ _
      | exact settle_Rounds.mono _ _
      | exact LeO.none _
      | refine LeO.ite ?_ ?_
      | refine LeO.bind ?_ (fun _ => ?_)
    · intro y0 y1 y2 y3 y4
      unfold barrowlaw26_SettleRounds.l1
      repeat' first
      | (with_reducible exact ih0 _ _ _ _)
      | (with_reducible exact ih1 _ _ _ _ _)
      | (with_reducible exact ih2 _ _ _ _ _)
      | (with_reducible exact ih3 _ _ _ _ _ _ _ _)
      | (with_reducible exact ih4 _ _ _ _ _)
      | (with_reducible exact ih5 _ _ _ _ _ _ _)
      | (with_reducible exact ih6 _ _ _ _ _)
      | (with_reducible exact ih7 _ _ _ _ _ _ _ _)
      | (with_reducible exact ih8 _ _ _ _)
      | (with_reducible exact barrowlaw26_samePairs.mono _ _ _)
      | (with_reducible exact barrowref26_Rounds.mono _ _)
      | (with_reducible exact settle_Rounds.mono _ _)
      | (with_reducible exact LeO.refl _)
      | (with_reducible exact LeO.none _)
      | (with_reducible refine LeO.ite ?_ ?_)
      | (with_reducible refine LeO.bind ?_ (fun _ => ?_))
      | exact ih0 _ _ _ _
      | exact ih1 _ _ _ _ _
      | exact ih2 _ _ _ _ _
      | exact ih3 _ _ _ _ _ _ _ _
      | exact ih4 _ _ _ _ _
      | exact ih5 _ _ _ _ _ _ _
      | exact ih6 _ _ _ _ _
      | exact ih7 _ _ _ _ _ _ _ _
      | exact ih8 _ _ _ _
      | exact barrowlaw26_samePairs.mono _ _ _
      | exact barrowref26_Rounds.mono _ _
      | exact settle_Rounds.mono _ _
      | exact LeO.none _
      | refine LeO.ite ?_ ?_
      | refine LeO.bind ?_ (fun _ => ?_)
    · intro y0 y1 y2 y3 y4 y5 y6 y7
      unfold barrowlaw26_SettleRounds.l2
      repeat' first
      | (with_reducible exact ih0 _ _ _ _)
      | (with_reducible exact ih1 _ _ _ _ _)
      | (with_reducible exact ih2 _ _ _ _ _)
      | (with_reducible exact ih3 _ _ _ _ _ _ _ _)
      | (with_reducible exact ih4 _ _ _ _ _)
      | (with_reducible exact ih5 _ _ _ _ _ _ _)
      | (with_reducible exact ih6 _ _ _ _ _)
      | (with_reducible exact ih7 _ _ _ _ _ _ _ _)
      | (with_reducible exact ih8 _ _ _ _)
      | (with_reducible exact barrowlaw26_samePairs.mono _ _ _)
      | (with_reducible exact barrowref26_Rounds.mono _ _)
      | (with_reducible exact settle_Rounds.mono _ _)
      | (with_reducible exact LeO.refl _)
      | (with_reducible exact LeO.none _)
      | (with_reducible refine LeO.ite ?_ ?_)
      | (with_reducible refine LeO.bind ?_ (fun _ => ?_))
      | exact ih0 _ _ _ _
      | exact ih1 _ _ _ _ _
      | exact ih2 _ _ _ _ _
      | exact ih3 _ _ _ _ _ _ _ _
      | exact ih4 _ _ _ _ _
      | exact ih5 _ _ _ _ _ _ _
      | exact ih6 _ _ _ _ _
      | exact ih7 _ _ _ _ _ _ _ _
      | exact ih8 _ _ _ _
      | exact barrowlaw26_samePairs.mono _ _ _
      | exact barrowref26_Rounds.mono _ _
      | exact settle_Rounds.mono _ _
      | exact LeO.none _
      | refine LeO.ite ?_ ?_
      | refine LeO.bind ?_ (fun _ => ?_)
    · intro y0 y1 y2 y3 y4
      unfold barrowlaw26_SettleRounds.l3
      repeat' first
      | (with_reducible exact ih0 _ _ _ _)
      | (with_reducible exact ih1 _ _ _ _ _)
      | (with_reducible exact ih2 _ _ _ _ _)
      | (with_reducible exact ih3 _ _ _ _ _ _ _ _)
      | (with_reducible exact ih4 _ _ _ _ _)
      | (with_reducible exact ih5 _ _ _ _ _ _ _)
      | (with_reducible exact ih6 _ _ _ _ _)
      | (with_reducible exact ih7 _ _ _ _ _ _ _ _)
      | (with_reducible exact ih8 _ _ _ _)
      | (with_reducible exact barrowlaw26_samePairs.mono _ _ _)
      | (with_reducible exact barrowref26_Rounds.mono _ _)
      | (with_reducible exact settle_Rounds.mono _ _)
      | (with_reducible exact LeO.refl _)
      | (with_reducible exact LeO.none _)
      | (with_reducible refine LeO.ite ?_ ?_)
      | (with_reducible refine LeO.bind ?_ (fun _ => ?_))
      | exact ih0 _ _ _ _
      | exact ih1 _ _ _ _ _
      | exact ih2 _ _ _ _ _
      | exact ih3 _ _ _ _ _ _ _ _
      | exact ih4 _ _ _ _ _
      | exact ih5 _ _ _ _ _ _ _
      | exact ih6 _ _ _ _ _
      | exact ih7 _ _ _ _ _ _ _ _
      | exact ih8 _ _ _ _
      | exact barrowlaw26_samePairs.mono _ _ _
      | exact barrowref26_Rounds.mono _ _
      | exact settle_Rounds.mono _ _
      | exact LeO.none _
      | refine LeO.ite ?_ ?_
      | refine LeO.bind ?_ (fun _ => ?_)
    · intro y0 y1 y2 y3 y4 y5 y6
      unfold barrowlaw26_SettleRounds.l4
      repeat' first
      | (with_reducible exact ih0 _ _ _ _)
      | (with_reducible exact ih1 _ _ _ _ _)
      | (with_reducible exact ih2 _ _ _ _ _)
      | (with_reducible exact ih3 _ _ _ _ _ _ _ _)
      | (with_reducible exact ih4 _ _ _ _ _)
      | (with_reducible exact ih5 _ _ _ _ _ _ _)
      | (with_reducible exact ih6 _ _ _ _ _)
      | (with_reducible exact ih7 _ _ _ _ _ _ _ _)
      | (with_reducible exact ih8 _ _ _ _)
      | (with_reducible exact barrowlaw26_samePairs.mono _ _ _)
      | (with_reducible exact barrowref26_Rounds.mono _ _)
      | (with_reducible exact settle_Rounds.mono _ _)
      | (with_reducible exact LeO.refl _)
      | (with_reducible exact LeO.none _)
      | (with_reducible refine LeO.ite ?_ ?_)
      | (with_reducible refine LeO.bind ?_ (fun _ => ?_))
      | exact ih0 _ _ _ _
      | exact ih1 _ _ _ _ _
      | exact ih2 _ _ _ _ _
      | exact ih3 _ _ _ _ _ _ _ _
      | exact ih4 _ _ _ _ _
      | exact ih5 _ _ _ _ _ _ _
      | exact ih6 _ _ _ _ _
      | exact ih7 _ _ _ _ _ _ _ _
      | exact ih8 _ _ _ _
      | exact barrowlaw26_samePairs.mono _ _ _
      | exact barrowref26_Rounds.mono _ _
      | exact settle_Rounds.mono _ _
      | exact LeO.none _
      | refine LeO.ite ?_ ?_
      | refine LeO.bind ?_ (fun _ => ?_)
    · intro y0 y1 y2 y3 y4
      unfold barrowlaw26_SettleRounds.l5
      repeat' first
      | (with_reducible exact ih0 _ _ _ _)
      | (with_reducible exact ih1 _ _ _ _ _)
      | (with_reducible exact ih2 _ _ _ _ _)
      | (with_reducible exact ih3 _ _ _ _ _ _ _ _)
      | (with_reducible exact ih4 _ _ _ _ _)
      | (with_reducible exact ih5 _ _ _ _ _ _ _)
      | (with_reducible exact ih6 _ _ _ _ _)
      | (with_reducible exact ih7 _ _ _ _ _ _ _ _)
      | (with_reducible exact ih8 _ _ _ _)
      | (with_reducible exact barrowlaw26_samePairs.mono _ _ _)
      | (with_reducible exact barrowref26_Rounds.mono _ _)
      | (with_reducible exact settle_Rounds.mono _ _)
      | (with_reducible exact LeO.refl _)
      | (with_reducible exact LeO.none _)
      | (with_reducible refine LeO.ite ?_ ?_)
      | (with_reducible refine LeO.bind ?_ (fun _ => ?_))
      | exact ih0 _ _ _ _
      | exact ih1 _ _ _ _ _
      | exact ih2 _ _ _ _ _
      | exact ih3 _ _ _ _ _ _ _ _
      | exact ih4 _ _ _ _ _
      | exact ih5 _ _ _ _ _ _ _
      | exact ih6 _ _ _ _ _
      | exact ih7 _ _ _ _ _ _ _ _
      | exact ih8 _ _ _ _
      | exact barrowlaw26_samePairs.mono _ _ _
      | exact barrowref26_Rounds.mono _ _
      | exact settle_Rounds.mono _ _
      | exact LeO.none _
      | refine LeO.ite ?_ ?_
      | refine LeO.bind ?_ (fun _ => ?_)
    · intro y0 y1 y2 y3 y4 y5 y6 y7
      unfold barrowlaw26_SettleRounds.l6
      repeat' first
      | (with_reducible exact ih0 _ _ _ _)
      | (with_reducible exact ih1 _ _ _ _ _)
      | (with_reducible exact ih2 _ _ _ _ _)
      | (with_reducible exact ih3 _ _ _ _ _ _ _ _)
      | (with_reducible exact ih4 _ _ _ _ _)
      | (with_reducible exact ih5 _ _ _ _ _ _ _)
      | (with_reducible exact ih6 _ _ _ _ _)
      | (with_reducible exact ih7 _ _ _ _ _ _ _ _)
      | (with_reducible exact ih8 _ _ _ _)
      | (with_reducible exact barrowlaw26_samePairs.mono _ _ _)
      | (with_reducible exact barrowref26_Rounds.mono _ _)
      | (with_reducible exact settle_Rounds.mono _ _)
      | (with_reducible exact LeO.refl _)
      | (with_reducible exact LeO.none _)
      | (with_reducible refine LeO.ite ?_ ?_)
      | (with_reducible refine LeO.bind ?_ (fun _ => ?_))
      | exact ih0 _ _ _ _
      | exact ih1 _ _ _ _ _
      | exact ih2 _ _ _ _ _
      | exact ih3 _ _ _ _ _ _ _ _
      | exact ih4 _ _ _ _ _
      | exact ih5 _ _ _ _ _ _ _
      | exact ih6 _ _ _ _ _
      | exact ih7 _ _ _ _ _ _ _ _
      | exact ih8 _ _ _ _
      | exact barrowlaw26_samePairs.mono _ _ _
      | exact barrowref26_Rounds.mono _ _
      | exact settle_Rounds.mono _ _
      | exact LeO.none _
      | refine LeO.ite ?_ ?_
      | refine LeO.bind ?_ (fun _ => ?_)
    · intro y0 y1 y2 y3
      unfold barrowlaw26_SettleRounds.l7
      repeat' first
      | (with_reducible exact ih0 _ _ _ _)
      | (with_reducible exact ih1 _ _ _ _ _)
      | (with_reducible exact ih2 _ _ _ _ _)
      | (with_reducible exact ih3 _ _ _ _ _ _ _ _)
      | (with_reducible exact ih4 _ _ _ _ _)
      | (with_reducible exact ih5 _ _ _ _ _ _ _)
      | (with_reducible exact ih6 _ _ _ _ _)
      | (with_reducible exact ih7 _ _ _ _ _ _ _ _)
      | (with_reducible exact ih8 _ _ _ _)
      | (with_reducible exact barrowlaw26_samePairs.mono _ _ _)
      | (with_reducible exact barrowref26_Rounds.mono _ _)
      | (with_reducible exact settle_Rounds.mono _ _)
      | (with_reducible exact LeO.refl _)
      | (with_reducible exact LeO.none _)
      | (with_reducible refine LeO.ite ?_ ?_)
      | (with_reducible refine LeO.bind ?_ (fun _ => ?_))
      | exact ih0 _ _ _ _
      | exact ih1 _ _ _ _ _
      | exact ih2 _ _ _ _ _
      | exact ih3 _ _ _ _ _ _ _ _
      | exact ih4 _ _ _ _ _
      | exact ih5 _ _ _ _ _ _ _
      | exact ih6 _ _ _ _ _
      | exact ih7 _ _ _ _ _ _ _ _
      | exact ih8 _ _ _ _
      | exact barrowlaw26_samePairs.mono _ _ _
      | exact barrowref26_Rounds.mono _ _
      | exact settle_Rounds.mono _ _
      | exact LeO.none _
      | refine LeO.ite ?_ ?_
      | refine LeO.bind ?_ (fun _ => ?_)
theorem barrowlaw26_SettleRounds.mono : ∀ a0 k, LeO (barrowlaw26_SettleRounds.f k a0) (barrowlaw26_SettleRounds.f (k + 1) a0) := by
  intro a0 k
  obtain ⟨ih0, ih1, ih2, ih3, ih4, ih5, ih6, ih7, ih8⟩ := barrowlaw26_SettleRounds.mono_l k
  unfold barrowlaw26_SettleRounds.f
  repeat' first
      | (with_reducible exact ih0 _ _ _ _)
      | (with_reducible exact ih1 _ _ _ _ _)
      | (with_reducible exact ih2 _ _ _ _ _)
      | (with_reducible exact ih3 _ _ _ _ _ _ _ _)
      | (with_reducible exact ih4 _ _ _ _ _)
      | (with_reducible exact ih5 _ _ _ _ _ _ _)
      | (with_reducible exact ih6 _ _ _ _ _)
      | (with_reducible exact ih7 _ _ _ _ _ _ _ _)
      | (with_reducible exact ih8 _ _ _ _)
      | (with_reducible exact barrowlaw26_samePairs.mono _ _ _)
      | (with_reducible exact barrowref26_Rounds.mono _ _)
      | (with_reducible exact settle_Rounds.mono _ _)
      | (with_reducible exact LeO.refl _)
      | (with_reducible exact LeO.none _)
      | (with_reducible refine LeO.ite ?_ ?_)
      | (with_reducible refine LeO.bind ?_ (fun _ => ?_))
      | exact ih0 _ _ _ _
      | exact ih1 _ _ _ _ _
      | exact ih2 _ _ _ _ _
      | exact ih3 _ _ _ _ _ _ _ _
      | exact ih4 _ _ _ _ _
      | exact ih5 _ _ _ _ _ _ _
      | exact ih6 _ _ _ _ _
      | exact ih7 _ _ _ _ _ _ _ _
      | exact ih8 _ _ _ _
      | exact barrowlaw26_samePairs.mono _ _ _
      | exact barrowref26_Rounds.mono _ _
      | exact settle_Rounds.mono _ _
      | exact LeO.none _
      | refine LeO.ite ?_ ?_
      | refine LeO.bind ?_ (fun _ => ?_)
set_option maxHeartbeats 8000000 in
set_option maxRecDepth 100000 in
theorem barrowlaw26_SettleRounds.calls (k : Nat) (a0 : Int) (r : Bool) (w : World) (h : barrowlaw26_SettleRounds.f k a0 = some r) :
    Calls Try.prog 5 #[.int .i64 a0] w fun e w' => e = .returned (.bool r) ∧ Below w.heap.size w w' := by
  have hu26 := Try.underlying26
  have HB := Aside0.mk (Below.refl w.heap.size w)
  have H : ((settle_Rounds.f k a0).bind fun t126 => ((barrowref26_Rounds.f k a0).bind fun t129 => ((settle_Rounds.f k 3).bind fun t132 => (if (t132.length : Int) = 2 then (barrowlaw26_SettleRounds.j0 k a0 t126 t129 ((t126.length : Int) != (t129.length : Int))) else (barrowlaw26_SettleRounds.j0 k a0 t126 t129 true))))) = some r := h
  clear h
  replace H := Option.bind_eq_some_iff.mp H
  obtain ⟨t126, A20, H⟩ := H
  replace H : ((barrowref26_Rounds.f k a0).bind fun t129 => ((settle_Rounds.f k 3).bind fun t132 => (if (t132.length : Int) = 2 then (barrowlaw26_SettleRounds.j0 k a0 t126 t129 ((t126.length : Int) != (t129.length : Int))) else (barrowlaw26_SettleRounds.j0 k a0 t126 t129 true)))) = some r := H
  have A2 := Aside0.mk A20
  clear A20
  replace H := Option.bind_eq_some_iff.mp H
  obtain ⟨t129, A30, H⟩ := H
  replace H : ((settle_Rounds.f k 3).bind fun t132 => (if (t132.length : Int) = 2 then (barrowlaw26_SettleRounds.j0 k a0 t126 t129 ((t126.length : Int) != (t129.length : Int))) else (barrowlaw26_SettleRounds.j0 k a0 t126 t129 true))) = some r := H
  have A3 := Aside0.mk A30
  clear A30
  have HC4 := Aside0.mk H
  clear H
  go_enter Try.func5, Try.ntmps5
  go_upto_region 3 with (first | (go_at_call 17; (with_reducible refine (settle_Rounds.calls k a0 t126 _ A2.out).mono ?_); rintro e w5 ⟨v127, rfl, ho0, hb⟩; have n0_ := Aside0.mk (Kd.S_lower ho0 (below_size (by repeat (first | (with_reducible first | exact HB.out | apply below_alloc | apply pw_below_drewN | apply below_drew1) | exact HB.out)))); have n1_ := Aside0.mk (below_step (by repeat (first | (with_reducible first | exact HB.out | apply below_alloc | apply pw_below_drewN | apply below_drew1) | exact HB.out)) hb); clear HB; have HO128 := n0_; have HB := n1_; clear n0_ n1_; (try clear hb); (try clear hb2); (try clear hk); (try clear hi); (try clear ho0)) | (go_at_call 18; (with_reducible refine (barrowref26_Rounds.calls k a0 t129 _ A3.out).mono ?_); rintro e w6 ⟨v130, rfl, ho0, hb⟩; have n0_ := Aside0.mk (Kd.S_below (by (with_reducible repeat (first | apply Kd.S_alloc | apply Kd.S_drewN | apply Kd.S_drew)); exact HO128.out) hb); have n1_ := Aside0.mk (Kd.S_lower ho0 (below_size (by repeat (first | (with_reducible first | exact HB.out | apply below_alloc | apply pw_below_drewN | apply below_drew1) | exact HB.out)))); have n2_ := Aside0.mk (below_step (by repeat (first | (with_reducible first | exact HB.out | apply below_alloc | apply pw_below_drewN | apply below_drew1) | exact HB.out)) hb); clear HO128; clear HB; have HO128 := n0_; have HO131 := n1_; have HB := n2_; clear n0_ n1_ n2_; (try clear hb); (try clear hb2); (try clear hk); (try clear hi); (try clear ho0)))
  repeat (go_quiet (first | (go_at_call 17; (with_reducible refine (settle_Rounds.calls k a0 t126 _ A2.out).mono ?_); rintro e w5 ⟨v127, rfl, ho0, hb⟩; have n0_ := Aside0.mk (Kd.S_lower ho0 (below_size (by repeat (first | (with_reducible first | exact HB.out | apply below_alloc | apply pw_below_drewN | apply below_drew1) | exact HB.out)))); have n1_ := Aside0.mk (below_step (by repeat (first | (with_reducible first | exact HB.out | apply below_alloc | apply pw_below_drewN | apply below_drew1) | exact HB.out)) hb); clear HB; have HO128 := n0_; have HB := n1_; clear n0_ n1_; (try clear hb); (try clear hb2); (try clear hk); (try clear hi); (try clear ho0)) | (go_at_call 18; (with_reducible refine (barrowref26_Rounds.calls k a0 t129 _ A3.out).mono ?_); rintro e w6 ⟨v130, rfl, ho0, hb⟩; have n0_ := Aside0.mk (Kd.S_below (by (with_reducible repeat (first | apply Kd.S_alloc | apply Kd.S_drewN | apply Kd.S_drew)); exact HO128.out) hb); have n1_ := Aside0.mk (Kd.S_lower ho0 (below_size (by repeat (first | (with_reducible first | exact HB.out | apply below_alloc | apply pw_below_drewN | apply below_drew1) | exact HB.out)))); have n2_ := Aside0.mk (below_step (by repeat (first | (with_reducible first | exact HB.out | apply below_alloc | apply pw_below_drewN | apply below_drew1) | exact HB.out)) hb); clear HO128; clear HB; have HO128 := n0_; have HO131 := n1_; have HB := n2_; clear n0_ n1_ n2_; (try clear hb); (try clear hb2); (try clear hk); (try clear hi); (try clear ho0))); go_upto_region 3 with (first | (go_at_call 17; (with_reducible refine (settle_Rounds.calls k a0 t126 _ A2.out).mono ?_); rintro e w5 ⟨v127, rfl, ho0, hb⟩; have n0_ := Aside0.mk (Kd.S_lower ho0 (below_size (by repeat (first | (with_reducible first | exact HB.out | apply below_alloc | apply pw_below_drewN | apply below_drew1) | exact HB.out)))); have n1_ := Aside0.mk (below_step (by repeat (first | (with_reducible first | exact HB.out | apply below_alloc | apply pw_below_drewN | apply below_drew1) | exact HB.out)) hb); clear HB; have HO128 := n0_; have HB := n1_; clear n0_ n1_; (try clear hb); (try clear hb2); (try clear hk); (try clear hi); (try clear ho0)) | (go_at_call 18; (with_reducible refine (barrowref26_Rounds.calls k a0 t129 _ A3.out).mono ?_); rintro e w6 ⟨v130, rfl, ho0, hb⟩; have n0_ := Aside0.mk (Kd.S_below (by (with_reducible repeat (first | apply Kd.S_alloc | apply Kd.S_drewN | apply Kd.S_drew)); exact HO128.out) hb); have n1_ := Aside0.mk (Kd.S_lower ho0 (below_size (by repeat (first | (with_reducible first | exact HB.out | apply below_alloc | apply pw_below_drewN | apply below_drew1) | exact HB.out)))); have n2_ := Aside0.mk (below_step (by repeat (first | (with_reducible first | exact HB.out | apply below_alloc | apply pw_below_drewN | apply below_drew1) | exact HB.out)) hb); clear HO128; clear HB; have HO128 := n0_; have HO131 := n1_; have HB := n2_; clear n0_ n1_ n2_; (try clear hb); (try clear hb2); (try clear hk); (try clear hi); (try clear ho0))))
  (try simp only [Act.put, List.setIfInBounds_toArray, List.set_cons_zero, List.set_cons_succ])
  go_cut [26] (fun v26 wc => ∃ (kq : Nat) (x26_3 : Bool), v26 = .bool x26_3 ∧ Aside0 (barrowlaw26_SettleRounds.j0 kq a0 t126 t129 x26_3 = some r) ∧ Aside0 (kq ≤ k) ∧ Aside0 (Kd.S (Kd.slice 26 k26) 22 wc w.heap.size (fun _ => True) v127 t126) ∧ Aside0 (Kd.S (Kd.slice 60 k60) 34 wc w.heap.size (fun _ => True) v130 t129) ∧ Aside0 (Below w.heap.size w wc))
  case first =>
    have H := HC4.out
    clear HC4
    replace H := Option.bind_eq_some_iff.mp H
    obtain ⟨t132, A70, H⟩ := H
    replace H : (if (t132.length : Int) = 2 then (barrowlaw26_SettleRounds.j0 k a0 t126 t129 ((t126.length : Int) != (t129.length : Int))) else (barrowlaw26_SettleRounds.j0 k a0 t126 t129 true)) = some r := H
    have A7 := Aside0.mk A70
    clear A70
    by_cases c8 : (t132.length : Int) = 2
    · rw [if_pos c8] at H
      have c8b0 : ((t132.length : Int) == 2) = true := beq_iff_eq.mpr c8
      have c8b1 : ((t132.length : Int) != 2) = false := bne_eq_false_iff_eq.mpr c8
      clear c8
      (first | rw [c8b0] | (simp only [i64_w, i32_w]; rw [c8b0]) | skip)
      have H' := Aside0.mk H
      clear H
      go_wp2_with (first | (go_at_call 17; (with_reducible refine (settle_Rounds.calls k 3 t132 _ A7.out).mono ?_); rintro e w9 ⟨v133, rfl, ho0, hb⟩; have n0_ := Aside0.mk (Kd.S_elder' (by (with_reducible repeat (first | apply Kd.S_alloc | apply Kd.S_drewN | apply Kd.S_drew)); exact HO128.out) (Kd.S_base ho0) hb); have n1_ := Aside0.mk (Kd.S_below (by (with_reducible repeat (first | apply Kd.S_alloc | apply Kd.S_drewN | apply Kd.S_drew)); exact HO131.out) hb); have n2_ := Aside0.mk (Kd.S_lower (Kd.S_new' ho0 (Kd.S_lt (by (with_reducible repeat (first | apply Kd.S_alloc | apply Kd.S_drewN | apply Kd.S_drew)); exact HO128.out))) (below_size (by repeat (first | (with_reducible first | exact HB.out | apply below_alloc | apply pw_below_drewN | apply below_drew1) | exact HB.out)))); have n3_ := Aside0.mk (below_step (by repeat (first | (with_reducible first | exact HB.out | apply below_alloc | apply pw_below_drewN | apply below_drew1) | exact HB.out)) hb); clear HO128; clear HO131; clear HB; have HO128 := n0_; have HO131 := n1_; have HO134 := n2_; have HB := n3_; clear n0_ n1_ n2_ n3_; (try clear hb); (try clear hb2); (try clear hk); (try clear hi); (try clear ho0); obtain ⟨Ao10, co10, eo10⟩ := Kd.S_slice HO134.out; subst eo10; obtain ⟨Ao11, co11, eo11⟩ := Kd.S_slice HO128.out; subst eo11; obtain ⟨Ao12, co12, eo12⟩ := Kd.S_slice HO131.out; subst eo12))
      repeat (go_quiet (first | (go_at_call 17; (with_reducible refine (settle_Rounds.calls k 3 t132 _ A7.out).mono ?_); rintro e w9 ⟨v133, rfl, ho0, hb⟩; have n0_ := Aside0.mk (Kd.S_elder' (by (with_reducible repeat (first | apply Kd.S_alloc | apply Kd.S_drewN | apply Kd.S_drew)); exact HO128.out) (Kd.S_base ho0) hb); have n1_ := Aside0.mk (Kd.S_below (by (with_reducible repeat (first | apply Kd.S_alloc | apply Kd.S_drewN | apply Kd.S_drew)); exact HO131.out) hb); have n2_ := Aside0.mk (Kd.S_lower (Kd.S_new' ho0 (Kd.S_lt (by (with_reducible repeat (first | apply Kd.S_alloc | apply Kd.S_drewN | apply Kd.S_drew)); exact HO128.out))) (below_size (by repeat (first | (with_reducible first | exact HB.out | apply below_alloc | apply pw_below_drewN | apply below_drew1) | exact HB.out)))); have n3_ := Aside0.mk (below_step (by repeat (first | (with_reducible first | exact HB.out | apply below_alloc | apply pw_below_drewN | apply below_drew1) | exact HB.out)) hb); clear HO128; clear HO131; clear HB; have HO128 := n0_; have HO131 := n1_; have HO134 := n2_; have HB := n3_; clear n0_ n1_ n2_ n3_; (try clear hb); (try clear hb2); (try clear hk); (try clear hi); (try clear ho0); obtain ⟨Ao10, co10, eo10⟩ := Kd.S_slice HO134.out; subst eo10; obtain ⟨Ao11, co11, eo11⟩ := Kd.S_slice HO128.out; subst eo11; obtain ⟨Ao12, co12, eo12⟩ := Kd.S_slice HO131.out; subst eo12)); try go_wp2_with (first | (go_at_call 17; (with_reducible refine (settle_Rounds.calls k 3 t132 _ A7.out).mono ?_); rintro e w9 ⟨v133, rfl, ho0, hb⟩; have n0_ := Aside0.mk (Kd.S_elder' (by (with_reducible repeat (first | apply Kd.S_alloc | apply Kd.S_drewN | apply Kd.S_drew)); exact HO128.out) (Kd.S_base ho0) hb); have n1_ := Aside0.mk (Kd.S_below (by (with_reducible repeat (first | apply Kd.S_alloc | apply Kd.S_drewN | apply Kd.S_drew)); exact HO131.out) hb); have n2_ := Aside0.mk (Kd.S_lower (Kd.S_new' ho0 (Kd.S_lt (by (with_reducible repeat (first | apply Kd.S_alloc | apply Kd.S_drewN | apply Kd.S_drew)); exact HO128.out))) (below_size (by repeat (first | (with_reducible first | exact HB.out | apply below_alloc | apply pw_below_drewN | apply below_drew1) | exact HB.out)))); have n3_ := Aside0.mk (below_step (by repeat (first | (with_reducible first | exact HB.out | apply below_alloc | apply pw_below_drewN | apply below_drew1) | exact HB.out)) hb); clear HO128; clear HO131; clear HB; have HO128 := n0_; have HO131 := n1_; have HO134 := n2_; have HB := n3_; clear n0_ n1_ n2_ n3_; (try clear hb); (try clear hb2); (try clear hk); (try clear hi); (try clear ho0); obtain ⟨Ao10, co10, eo10⟩ := Kd.S_slice HO134.out; subst eo10; obtain ⟨Ao11, co11, eo11⟩ := Kd.S_slice HO128.out; subst eo11; obtain ⟨Ao12, co12, eo12⟩ := Kd.S_slice HO131.out; subst eo12)))
      go_meet
      case rel => exact ⟨_, (((t126.length : Int) != (t129.length : Int))), (by first | rfl | (simp; done) | (simp [*]; done)), H', ⟨by first | omega | exact Nat.le_refl _⟩, ⟨by (with_reducible repeat (first | apply Kd.S_alloc | apply Kd.S_drewN | apply Kd.S_drew)); exact Kd.S_mono HO128.out (fun _ hk => trivial)⟩, ⟨by (with_reducible repeat (first | apply Kd.S_alloc | apply Kd.S_drewN | apply Kd.S_drew)); exact HO131.out⟩, ⟨by repeat (first | (with_reducible first | exact HB.out | apply below_alloc | apply pw_below_drewN | apply below_drew1) | exact HB.out)⟩⟩
    · rw [if_neg c8] at H
      have c8b0 : ((t132.length : Int) == 2) = false := beq_eq_false_iff_ne.mpr c8
      have c8b1 : ((t132.length : Int) != 2) = true := bne_iff_ne.mpr c8
      (first | rw [c8b0] | (simp only [i64_w, i32_w]; rw [c8b0]) | skip)
      have H' := Aside0.mk H
      clear H
      go_wp2_with (first | (go_at_call 17; (with_reducible refine (settle_Rounds.calls k 3 t132 _ A7.out).mono ?_); rintro e w13 ⟨v133, rfl, ho0, hb⟩; have n0_ := Aside0.mk (Kd.S_elder' (by (with_reducible repeat (first | apply Kd.S_alloc | apply Kd.S_drewN | apply Kd.S_drew)); exact HO128.out) (Kd.S_base ho0) hb); have n1_ := Aside0.mk (Kd.S_below (by (with_reducible repeat (first | apply Kd.S_alloc | apply Kd.S_drewN | apply Kd.S_drew)); exact HO131.out) hb); have n2_ := Aside0.mk (Kd.S_lower (Kd.S_new' ho0 (Kd.S_lt (by (with_reducible repeat (first | apply Kd.S_alloc | apply Kd.S_drewN | apply Kd.S_drew)); exact HO128.out))) (below_size (by repeat (first | (with_reducible first | exact HB.out | apply below_alloc | apply pw_below_drewN | apply below_drew1) | exact HB.out)))); have n3_ := Aside0.mk (below_step (by repeat (first | (with_reducible first | exact HB.out | apply below_alloc | apply pw_below_drewN | apply below_drew1) | exact HB.out)) hb); clear HO128; clear HO131; clear HB; have HO128 := n0_; have HO131 := n1_; have HO134 := n2_; have HB := n3_; clear n0_ n1_ n2_ n3_; (try clear hb); (try clear hb2); (try clear hk); (try clear hi); (try clear ho0); obtain ⟨Ao14, co14, eo14⟩ := Kd.S_slice HO134.out; subst eo14))
      repeat (go_quiet (first | (go_at_call 17; (with_reducible refine (settle_Rounds.calls k 3 t132 _ A7.out).mono ?_); rintro e w13 ⟨v133, rfl, ho0, hb⟩; have n0_ := Aside0.mk (Kd.S_elder' (by (with_reducible repeat (first | apply Kd.S_alloc | apply Kd.S_drewN | apply Kd.S_drew)); exact HO128.out) (Kd.S_base ho0) hb); have n1_ := Aside0.mk (Kd.S_below (by (with_reducible repeat (first | apply Kd.S_alloc | apply Kd.S_drewN | apply Kd.S_drew)); exact HO131.out) hb); have n2_ := Aside0.mk (Kd.S_lower (Kd.S_new' ho0 (Kd.S_lt (by (with_reducible repeat (first | apply Kd.S_alloc | apply Kd.S_drewN | apply Kd.S_drew)); exact HO128.out))) (below_size (by repeat (first | (with_reducible first | exact HB.out | apply below_alloc | apply pw_below_drewN | apply below_drew1) | exact HB.out)))); have n3_ := Aside0.mk (below_step (by repeat (first | (with_reducible first | exact HB.out | apply below_alloc | apply pw_below_drewN | apply below_drew1) | exact HB.out)) hb); clear HO128; clear HO131; clear HB; have HO128 := n0_; have HO131 := n1_; have HO134 := n2_; have HB := n3_; clear n0_ n1_ n2_ n3_; (try clear hb); (try clear hb2); (try clear hk); (try clear hi); (try clear ho0); obtain ⟨Ao14, co14, eo14⟩ := Kd.S_slice HO134.out; subst eo14)); try go_wp2_with (first | (go_at_call 17; (with_reducible refine (settle_Rounds.calls k 3 t132 _ A7.out).mono ?_); rintro e w13 ⟨v133, rfl, ho0, hb⟩; have n0_ := Aside0.mk (Kd.S_elder' (by (with_reducible repeat (first | apply Kd.S_alloc | apply Kd.S_drewN | apply Kd.S_drew)); exact HO128.out) (Kd.S_base ho0) hb); have n1_ := Aside0.mk (Kd.S_below (by (with_reducible repeat (first | apply Kd.S_alloc | apply Kd.S_drewN | apply Kd.S_drew)); exact HO131.out) hb); have n2_ := Aside0.mk (Kd.S_lower (Kd.S_new' ho0 (Kd.S_lt (by (with_reducible repeat (first | apply Kd.S_alloc | apply Kd.S_drewN | apply Kd.S_drew)); exact HO128.out))) (below_size (by repeat (first | (with_reducible first | exact HB.out | apply below_alloc | apply pw_below_drewN | apply below_drew1) | exact HB.out)))); have n3_ := Aside0.mk (below_step (by repeat (first | (with_reducible first | exact HB.out | apply below_alloc | apply pw_below_drewN | apply below_drew1) | exact HB.out)) hb); clear HO128; clear HO131; clear HB; have HO128 := n0_; have HO131 := n1_; have HO134 := n2_; have HB := n3_; clear n0_ n1_ n2_ n3_; (try clear hb); (try clear hb2); (try clear hk); (try clear hi); (try clear ho0); obtain ⟨Ao14, co14, eo14⟩ := Kd.S_slice HO134.out; subst eo14)))
      go_meet
      case rel => exact ⟨_, (true), (by first | rfl | (simp; done) | (simp [*]; done)), H', ⟨by first | omega | exact Nat.le_refl _⟩, ⟨by (with_reducible repeat (first | apply Kd.S_alloc | apply Kd.S_drewN | apply Kd.S_drew)); exact Kd.S_mono HO128.out (fun _ hk => trivial)⟩, ⟨by (with_reducible repeat (first | apply Kd.S_alloc | apply Kd.S_drewN | apply Kd.S_drew)); exact HO131.out⟩, ⟨by repeat (first | (with_reducible first | exact HB.out | apply below_alloc | apply pw_below_drewN | apply below_drew1) | exact HB.out)⟩⟩
  case rest =>
    clear HC4
    try clear p2
    try clear c5
    try clear c8
    try clear c8b0
    try clear c8b1
    obtain ⟨kq, x26_3, rfl, HA, HJ3, HO_3, HO_4, HB⟩ := hcut
    cases kq with
    | zero => exact absurd HA.out (by simp [barrowlaw26_SettleRounds.j0])
    | succ kj3 =>
      have H := HA.out
      clear HA
      simp only [barrowlaw26_SettleRounds.j0] at H
      by_cases c15 : x26_3 = true
      · subst c15
        have H1 : (some false) = some r := by rw [if_pos rfl] at H; exact H
        clear H
        have H := H1
        clear H1
        obtain rfl := Option.some.inj H
        go_wp2
        repeat (go_quiet (fail); try go_wp2)
        go_ret
        exact ⟨by first | rfl | (simp [errW_none, errW_some] <;> rfl) | (simp [*, errW_none, errW_some] <;> rfl), by repeat (first | (with_reducible first | exact HB.out | apply below_alloc | apply pw_below_drewN | apply below_drew1) | exact HB.out)⟩
      · replace c15 := Bool.eq_false_iff.mpr c15
        subst c15
        have H1 : (barrowlaw26_SettleRounds.l0 kj3 a0 t126 t129 (t129.length : Int) 0) = some r := by rw [if_neg (show ¬ (false = true) by decide)] at H; exact H
        clear H
        have H := H1
        clear H1
        have H' := Aside0.mk H
        clear H
        obtain ⟨Ao16, co16, eo16⟩ := Kd.S_slice HO_4.out
        subst eo16
        go_wp2
        repeat (go_quiet (fail); try go_wp2)
        go_loopg [29] kj3 (fun kq v29 w' => ∃ (x29_2 : Int), v29 = .int .i64 x29_2 ∧ Aside0 (barrowlaw26_SettleRounds.l0 kq a0 t126 t129 (t129.length : Int) x29_2 = some r) ∧ Aside0 (kq ≤ kj3) ∧ Aside0 (Kd.S (Kd.slice 26 k26) 22 w' w.heap.size (fun _ => True) v127 t126) ∧ Aside0 (Kd.S (Kd.slice 60 k60) 34 w' w.heap.size (fun _ => True) (.slice Ao16 t129.length co16) t129) ∧ Aside0 (Below w.heap.size w w'))
        case atStart => exact ⟨(0), (by first | rfl | (simp; done) | (simp [*]; done)), H', ⟨Nat.le_refl _⟩, ⟨by (with_reducible repeat (first | apply Kd.S_alloc | apply Kd.S_drewN | apply Kd.S_drew)); exact HO_3.out⟩, ⟨by (with_reducible repeat (first | apply Kd.S_alloc | apply Kd.S_drewN | apply Kd.S_drew)); exact HO_4.out⟩, ⟨by repeat (first | (with_reducible first | exact HB.out | apply below_alloc | apply pw_below_drewN | apply below_drew1) | exact HB.out)⟩⟩
        case round =>
          clear H'
          try clear c1
          try clear p2
          try clear c5
          try clear c8
          try clear c8b0
          try clear c8b1
          try clear c15
          try clear p2
          obtain ⟨x29_2, rfl, HA, HK2, HO_3, HO_4, HB⟩ := hrel
          cases gk with
          | zero => exact absurd HA.out (by simp [barrowlaw26_SettleRounds.l0])
          | succ k2 =>
            have H := HA.out
            clear HA
            simp only [barrowlaw26_SettleRounds.l0] at H
            by_cases c17 : x29_2 < (t129.length : Int)
            · rw [if_pos c17] at H
              have c17b0 : decide (x29_2 < (t129.length : Int)) = true := decide_eq_true c17
              clear c17
              by_cases c18 : 0 ≤ x29_2
              · rw [if_pos c18] at H
                have c18b0 : decide (0 ≤ x29_2) = true := decide_eq_true c18
                clear c18
                by_cases c19 : x29_2 < (t126.length : Int)
                · rw [if_pos c19] at H
                  have c19b0 : decide (x29_2 < (t126.length : Int)) = true := decide_eq_true c19
                  clear c19
                  by_cases c20 : x29_2 < (t129.length : Int)
                  · rw [if_pos c20] at H
                    have c20b0 : decide (x29_2 < (t129.length : Int)) = true := decide_eq_true c20
                    clear c20
                    replace H := Option.bind_eq_some_iff.mp H
                    obtain ⟨t137, A210, H⟩ := H
                    replace H : (if t137 = true then (barrowlaw26_SettleRounds.l0 k2 a0 t126 t129 (t129.length : Int) (wrap64 (x29_2 + 1))) else (some false)) = some r := H
                    have A21 := Aside0.mk A210
                    clear A210
                    by_cases c22 : t137 = true
                    · subst c22
                      have H1 : (barrowlaw26_SettleRounds.l0 k2 a0 t126 t129 (t129.length : Int) (wrap64 (x29_2 + 1))) = some r := by rw [if_pos rfl] at H; exact H
                      clear H
                      have H := H1
                      clear H1
                      have H' := Aside0.mk H
                      clear H
                      obtain ⟨Ao23, co23, eo23⟩ := Kd.S_slice HO_3.out
                      subst eo23
                      have p135 : 0 ≤ (x29_2 : Int) := of_decide_eq_true (by first | (with_reducible assumption) | assumption)
                      have q135 : x29_2 < (t126.length : Int) := of_decide_eq_true (by first | (with_reducible assumption) | assumption)
                      obtain ⟨ad135, A135_0, c135_0, e135, hx135_0, hl135_0, hi135_0⟩ := at_L3 (Kd.S_reads' HO_3.out).2.2 x29_2 p135 q135
                      cases e135
                      obtain ⟨ce135, hce135, hMe135, hcc135⟩ := Kd.S_get HO_3.out [] x29_2 p135 (by first | exact q135 | exact of_decide_eq_true (by first | (with_reducible assumption) | assumption) | (have e_ := (Kd.S_reads' HO_3.out).1; omega))
                      obtain ⟨ve135_0, rfl, ge135_0⟩ := hMe135
                      have hv135_0 := hcc135 0 _ rfl
                      rw [Nat.add_zero, show ((Kd.slice 26 k26)).sz = 1 from rfl, Nat.mul_one] at hv135_0
                      replace hv135_0 := Option.some.inj (hv135_0.symm.trans hx135_0)
                      rw [hv135_0] at ge135_0
                      have HL135_0 := Aside0.mk (show Kd.R k26 26 _ _ _ _ (rd_L3 t126 x29_2) from ge135_0)
                      clear hv135_0 ge135_0
                      have HX135_0 := Aside0.mk hx135_0
                      clear hcc135 hce135
                      have HR135_0 := Aside0.mk hi135_0
                      have HC135_0 := Aside0.mk hl135_0
                      clear hi135_0 hl135_0
                      replace p135 := eq_true p135
                      replace q135 := eq_true q135
                      have p136 : 0 ≤ (x29_2 : Int) := of_decide_eq_true (by first | (with_reducible assumption) | assumption)
                      have q136 : x29_2 < (t129.length : Int) := of_decide_eq_true (by first | (with_reducible assumption) | assumption)
                      obtain ⟨ad136, A136_0, c136_0, e136, hx136_0, hl136_0, hi136_0⟩ := at_L4 (Kd.S_reads' HO_4.out).2.2 x29_2 p136 q136
                      cases e136
                      obtain ⟨ce136, hce136, hMe136, hcc136⟩ := Kd.S_get HO_4.out [] x29_2 p136 (by first | exact q136 | exact of_decide_eq_true (by first | (with_reducible assumption) | assumption) | (have e_ := (Kd.S_reads' HO_4.out).1; omega))
                      obtain ⟨ve136_0, rfl, ge136_0⟩ := hMe136
                      have hv136_0 := hcc136 0 _ rfl
                      rw [Nat.add_zero, show ((Kd.slice 60 k60)).sz = 1 from rfl, Nat.mul_one] at hv136_0
                      replace hv136_0 := Option.some.inj (hv136_0.symm.trans hx136_0)
                      rw [hv136_0] at ge136_0
                      have HL136_0 := Aside0.mk (show Kd.R k60 60 _ _ _ _ (rd_L4 t129 x29_2) from ge136_0)
                      clear hv136_0 ge136_0
                      have HX136_0 := Aside0.mk hx136_0
                      clear hcc136 hce136
                      have HR136_0 := Aside0.mk hi136_0
                      have HC136_0 := Aside0.mk hl136_0
                      clear hi136_0 hl136_0
                      replace p136 := eq_true p136
                      replace q136 := eq_true q136
                      go_wp2_with (first | (go_at_call 16; (with_reducible refine (barrowlaw26_samePairs.calls k2 _ _ (rd_L3 t126 x29_2) _ _ (rd_L4 t129 x29_2) true _ ?side1 ?side2 ?side3 ?side4 A21.out).mono ?_); (case side1 => repeat (first | exact (by repeat (first | (with_reducible exact HR135_0.out) | (with_reducible refine Kd.C_alloc ?_ _) | (with_reducible refine Kd.C_drewN ?_ _) | (with_reducible refine Kd.C_drew ?_) | exact HR135_0.out)) | (with_reducible refine Kd.C_alloc ?_ _) | (with_reducible refine Kd.C_drewN ?_ _) | (with_reducible refine Kd.C_drew ?_))); (case side2 => exact HC135_0.out); (case side3 => repeat (first | exact (by repeat (first | (with_reducible exact HR136_0.out) | (with_reducible refine Kd.C_alloc ?_ _) | (with_reducible refine Kd.C_drewN ?_ _) | (with_reducible refine Kd.C_drew ?_) | exact HR136_0.out)) | (with_reducible refine Kd.C_alloc ?_ _) | (with_reducible refine Kd.C_drewN ?_ _) | (with_reducible refine Kd.C_drew ?_))); (case side4 => exact HC136_0.out); rintro e w' ⟨rfl, ⟨nd, rfl⟩⟩; (try first | exact ⟨rfl, _, World.drewN_drewN _ _ _⟩ | exact ⟨rfl, _, Eq.trans (World.drewN_drewN _ _ _) (congrArg (World.drewN _) (Nat.add_assoc _ _ _))⟩)))
                      repeat (go_quiet (first | (go_at_call 16; (with_reducible refine (barrowlaw26_samePairs.calls k2 _ _ (rd_L3 t126 x29_2) _ _ (rd_L4 t129 x29_2) true _ ?side1 ?side2 ?side3 ?side4 A21.out).mono ?_); (case side1 => repeat (first | exact (by repeat (first | (with_reducible exact HR135_0.out) | (with_reducible refine Kd.C_alloc ?_ _) | (with_reducible refine Kd.C_drewN ?_ _) | (with_reducible refine Kd.C_drew ?_) | exact HR135_0.out)) | (with_reducible refine Kd.C_alloc ?_ _) | (with_reducible refine Kd.C_drewN ?_ _) | (with_reducible refine Kd.C_drew ?_))); (case side2 => exact HC135_0.out); (case side3 => repeat (first | exact (by repeat (first | (with_reducible exact HR136_0.out) | (with_reducible refine Kd.C_alloc ?_ _) | (with_reducible refine Kd.C_drewN ?_ _) | (with_reducible refine Kd.C_drew ?_) | exact HR136_0.out)) | (with_reducible refine Kd.C_alloc ?_ _) | (with_reducible refine Kd.C_drewN ?_ _) | (with_reducible refine Kd.C_drew ?_))); (case side4 => exact HC136_0.out); rintro e w' ⟨rfl, ⟨nd, rfl⟩⟩; (try first | exact ⟨rfl, _, World.drewN_drewN _ _ _⟩ | exact ⟨rfl, _, Eq.trans (World.drewN_drewN _ _ _) (congrArg (World.drewN _) (Nat.add_assoc _ _ _))⟩))); try go_wp2_with (first | (go_at_call 16; (with_reducible refine (barrowlaw26_samePairs.calls k2 _ _ (rd_L3 t126 x29_2) _ _ (rd_L4 t129 x29_2) true _ ?side1 ?side2 ?side3 ?side4 A21.out).mono ?_); (case side1 => repeat (first | exact (by repeat (first | (with_reducible exact HR135_0.out) | (with_reducible refine Kd.C_alloc ?_ _) | (with_reducible refine Kd.C_drewN ?_ _) | (with_reducible refine Kd.C_drew ?_) | exact HR135_0.out)) | (with_reducible refine Kd.C_alloc ?_ _) | (with_reducible refine Kd.C_drewN ?_ _) | (with_reducible refine Kd.C_drew ?_))); (case side2 => exact HC135_0.out); (case side3 => repeat (first | exact (by repeat (first | (with_reducible exact HR136_0.out) | (with_reducible refine Kd.C_alloc ?_ _) | (with_reducible refine Kd.C_drewN ?_ _) | (with_reducible refine Kd.C_drew ?_) | exact HR136_0.out)) | (with_reducible refine Kd.C_alloc ?_ _) | (with_reducible refine Kd.C_drewN ?_ _) | (with_reducible refine Kd.C_drew ?_))); (case side4 => exact HC136_0.out); rintro e w' ⟨rfl, ⟨nd, rfl⟩⟩; (try first | exact ⟨rfl, _, World.drewN_drewN _ _ _⟩ | exact ⟨rfl, _, Eq.trans (World.drewN_drewN _ _ _) (congrArg (World.drewN _) (Nat.add_assoc _ _ _))⟩))))
                      go_roundg k2
                      case measure => have := HJ3.out; have := HK2.out; omega
                      case rel => exact ⟨(wrap64 (x29_2 + 1)), (by first | rfl | (simp; done) | (simp [*]; done)), H', ⟨by have := HJ3.out; have := HK2.out; omega⟩, ⟨by (with_reducible repeat (first | apply Kd.S_alloc | apply Kd.S_drewN | apply Kd.S_drew)); exact HO_3.out⟩, ⟨by (with_reducible repeat (first | apply Kd.S_alloc | apply Kd.S_drewN | apply Kd.S_drew)); exact HO_4.out⟩, ⟨by repeat (first | (with_reducible first | exact HB.out | apply below_alloc | apply pw_below_drewN | apply below_drew1) | exact HB.out)⟩⟩
                    · replace c22 := Bool.eq_false_iff.mpr c22
                      subst c22
                      have H1 : (some false) = some r := by rw [if_neg (show ¬ (false = true) by decide)] at H; exact H
                      clear H
                      have H := H1
                      clear H1
                      obtain rfl := Option.some.inj H
                      obtain ⟨Ao24, co24, eo24⟩ := Kd.S_slice HO_3.out
                      subst eo24
                      have p135 : 0 ≤ (x29_2 : Int) := of_decide_eq_true (by first | (with_reducible assumption) | assumption)
                      have q135 : x29_2 < (t126.length : Int) := of_decide_eq_true (by first | (with_reducible assumption) | assumption)
                      obtain ⟨ad135, A135_0, c135_0, e135, hx135_0, hl135_0, hi135_0⟩ := at_L3 (Kd.S_reads' HO_3.out).2.2 x29_2 p135 q135
                      cases e135
                      obtain ⟨ce135, hce135, hMe135, hcc135⟩ := Kd.S_get HO_3.out [] x29_2 p135 (by first | exact q135 | exact of_decide_eq_true (by first | (with_reducible assumption) | assumption) | (have e_ := (Kd.S_reads' HO_3.out).1; omega))
                      obtain ⟨ve135_0, rfl, ge135_0⟩ := hMe135
                      have hv135_0 := hcc135 0 _ rfl
                      rw [Nat.add_zero, show ((Kd.slice 26 k26)).sz = 1 from rfl, Nat.mul_one] at hv135_0
                      replace hv135_0 := Option.some.inj (hv135_0.symm.trans hx135_0)
                      rw [hv135_0] at ge135_0
                      have HL135_0 := Aside0.mk (show Kd.R k26 26 _ _ _ _ (rd_L3 t126 x29_2) from ge135_0)
                      clear hv135_0 ge135_0
                      have HX135_0 := Aside0.mk hx135_0
                      clear hcc135 hce135
                      have HR135_0 := Aside0.mk hi135_0
                      have HC135_0 := Aside0.mk hl135_0
                      clear hi135_0 hl135_0
                      replace p135 := eq_true p135
                      replace q135 := eq_true q135
                      have p136 : 0 ≤ (x29_2 : Int) := of_decide_eq_true (by first | (with_reducible assumption) | assumption)
                      have q136 : x29_2 < (t129.length : Int) := of_decide_eq_true (by first | (with_reducible assumption) | assumption)
                      obtain ⟨ad136, A136_0, c136_0, e136, hx136_0, hl136_0, hi136_0⟩ := at_L4 (Kd.S_reads' HO_4.out).2.2 x29_2 p136 q136
                      cases e136
                      obtain ⟨ce136, hce136, hMe136, hcc136⟩ := Kd.S_get HO_4.out [] x29_2 p136 (by first | exact q136 | exact of_decide_eq_true (by first | (with_reducible assumption) | assumption) | (have e_ := (Kd.S_reads' HO_4.out).1; omega))
                      obtain ⟨ve136_0, rfl, ge136_0⟩ := hMe136
                      have hv136_0 := hcc136 0 _ rfl
                      rw [Nat.add_zero, show ((Kd.slice 60 k60)).sz = 1 from rfl, Nat.mul_one] at hv136_0
                      replace hv136_0 := Option.some.inj (hv136_0.symm.trans hx136_0)
                      rw [hv136_0] at ge136_0
                      have HL136_0 := Aside0.mk (show Kd.R k60 60 _ _ _ _ (rd_L4 t129 x29_2) from ge136_0)
                      clear hv136_0 ge136_0
                      have HX136_0 := Aside0.mk hx136_0
                      clear hcc136 hce136
                      have HR136_0 := Aside0.mk hi136_0
                      have HC136_0 := Aside0.mk hl136_0
                      clear hi136_0 hl136_0
                      replace p136 := eq_true p136
                      replace q136 := eq_true q136
                      go_wp2_with (first | (go_at_call 16; (with_reducible refine (barrowlaw26_samePairs.calls k2 _ _ (rd_L3 t126 x29_2) _ _ (rd_L4 t129 x29_2) false _ ?side1 ?side2 ?side3 ?side4 A21.out).mono ?_); (case side1 => repeat (first | exact (by repeat (first | (with_reducible exact HR135_0.out) | (with_reducible refine Kd.C_alloc ?_ _) | (with_reducible refine Kd.C_drewN ?_ _) | (with_reducible refine Kd.C_drew ?_) | exact HR135_0.out)) | (with_reducible refine Kd.C_alloc ?_ _) | (with_reducible refine Kd.C_drewN ?_ _) | (with_reducible refine Kd.C_drew ?_))); (case side2 => exact HC135_0.out); (case side3 => repeat (first | exact (by repeat (first | (with_reducible exact HR136_0.out) | (with_reducible refine Kd.C_alloc ?_ _) | (with_reducible refine Kd.C_drewN ?_ _) | (with_reducible refine Kd.C_drew ?_) | exact HR136_0.out)) | (with_reducible refine Kd.C_alloc ?_ _) | (with_reducible refine Kd.C_drewN ?_ _) | (with_reducible refine Kd.C_drew ?_))); (case side4 => exact HC136_0.out); rintro e w' ⟨rfl, ⟨nd, rfl⟩⟩; (try first | exact ⟨rfl, _, World.drewN_drewN _ _ _⟩ | exact ⟨rfl, _, Eq.trans (World.drewN_drewN _ _ _) (congrArg (World.drewN _) (Nat.add_assoc _ _ _))⟩)))
                      repeat (go_quiet (first | (go_at_call 16; (with_reducible refine (barrowlaw26_samePairs.calls k2 _ _ (rd_L3 t126 x29_2) _ _ (rd_L4 t129 x29_2) false _ ?side1 ?side2 ?side3 ?side4 A21.out).mono ?_); (case side1 => repeat (first | exact (by repeat (first | (with_reducible exact HR135_0.out) | (with_reducible refine Kd.C_alloc ?_ _) | (with_reducible refine Kd.C_drewN ?_ _) | (with_reducible refine Kd.C_drew ?_) | exact HR135_0.out)) | (with_reducible refine Kd.C_alloc ?_ _) | (with_reducible refine Kd.C_drewN ?_ _) | (with_reducible refine Kd.C_drew ?_))); (case side2 => exact HC135_0.out); (case side3 => repeat (first | exact (by repeat (first | (with_reducible exact HR136_0.out) | (with_reducible refine Kd.C_alloc ?_ _) | (with_reducible refine Kd.C_drewN ?_ _) | (with_reducible refine Kd.C_drew ?_) | exact HR136_0.out)) | (with_reducible refine Kd.C_alloc ?_ _) | (with_reducible refine Kd.C_drewN ?_ _) | (with_reducible refine Kd.C_drew ?_))); (case side4 => exact HC136_0.out); rintro e w' ⟨rfl, ⟨nd, rfl⟩⟩; (try first | exact ⟨rfl, _, World.drewN_drewN _ _ _⟩ | exact ⟨rfl, _, Eq.trans (World.drewN_drewN _ _ _) (congrArg (World.drewN _) (Nat.add_assoc _ _ _))⟩))); try go_wp2_with (first | (go_at_call 16; (with_reducible refine (barrowlaw26_samePairs.calls k2 _ _ (rd_L3 t126 x29_2) _ _ (rd_L4 t129 x29_2) false _ ?side1 ?side2 ?side3 ?side4 A21.out).mono ?_); (case side1 => repeat (first | exact (by repeat (first | (with_reducible exact HR135_0.out) | (with_reducible refine Kd.C_alloc ?_ _) | (with_reducible refine Kd.C_drewN ?_ _) | (with_reducible refine Kd.C_drew ?_) | exact HR135_0.out)) | (with_reducible refine Kd.C_alloc ?_ _) | (with_reducible refine Kd.C_drewN ?_ _) | (with_reducible refine Kd.C_drew ?_))); (case side2 => exact HC135_0.out); (case side3 => repeat (first | exact (by repeat (first | (with_reducible exact HR136_0.out) | (with_reducible refine Kd.C_alloc ?_ _) | (with_reducible refine Kd.C_drewN ?_ _) | (with_reducible refine Kd.C_drew ?_) | exact HR136_0.out)) | (with_reducible refine Kd.C_alloc ?_ _) | (with_reducible refine Kd.C_drewN ?_ _) | (with_reducible refine Kd.C_drew ?_))); (case side4 => exact HC136_0.out); rintro e w' ⟨rfl, ⟨nd, rfl⟩⟩; (try first | exact ⟨rfl, _, World.drewN_drewN _ _ _⟩ | exact ⟨rfl, _, Eq.trans (World.drewN_drewN _ _ _) (congrArg (World.drewN _) (Nat.add_assoc _ _ _))⟩))))
                      go_ret
                      exact ⟨by first | rfl | (simp [errW_none, errW_some] <;> rfl) | (simp [*, errW_none, errW_some] <;> rfl), by repeat (first | (with_reducible first | exact HB.out | apply below_alloc | apply pw_below_drewN | apply below_drew1) | exact HB.out)⟩
                  · rw [if_neg c20] at H
                    exact absurd H (by simp)
                · rw [if_neg c19] at H
                  exact absurd H (by simp)
              · rw [if_neg c18] at H
                exact absurd H (by simp)
            · rw [if_neg c17] at H
              have c17b0 : decide (x29_2 < (t129.length : Int)) = false := decide_eq_false c17
              clear c17
              have H' := Aside0.mk H
              clear H
              obtain ⟨Ao25, co25, eo25⟩ := Kd.S_slice HO_3.out
              subst eo25
              go_wp2
              repeat (go_quiet (fail); try go_wp2)
              go_loopg [45] k2 (fun kq v45 w' => ∃ (x3_3 : List (List (S26))) (x45_3 : Int), v45 = .int .i64 x45_3 ∧ Aside0 (barrowlaw26_SettleRounds.l1 kq a0 x3_3 t129 (t126.length : Int) x45_3 = some r) ∧ Aside0 (kq ≤ k2) ∧ Aside0 (Kd.S (Kd.slice 26 k26) 22 w' w.heap.size (fun _ => True) (.slice Ao25 t126.length co25) x3_3) ∧ Aside0 (Kd.S (Kd.slice 60 k60) 34 w' w.heap.size (fun _ => True) (.slice Ao16 t129.length co16) t129) ∧ Aside0 (Below w.heap.size w w'))
              case atStart => exact ⟨(t126), (0), (by first | rfl | (simp; done) | (simp [*]; done)), H', ⟨Nat.le_refl _⟩, ⟨by (with_reducible repeat (first | apply Kd.S_alloc | apply Kd.S_drewN | apply Kd.S_drew)); exact HO_3.out⟩, ⟨by (with_reducible repeat (first | apply Kd.S_alloc | apply Kd.S_drewN | apply Kd.S_drew)); exact HO_4.out⟩, ⟨by repeat (first | (with_reducible first | exact HB.out | apply below_alloc | apply pw_below_drewN | apply below_drew1) | exact HB.out)⟩⟩
              case round =>
                clear H'
                try clear c1
                try clear p1
                try clear q1
                try clear hx1
                try clear c2
                try clear p2
                try clear c5
                try clear p6
                try clear c8
                try clear c8b0
                try clear c8b1
                try clear c13
                try clear p13
                try clear q13
                try clear hx13
                try clear c15
                try clear c17
                try clear c17b0
                try clear c18
                try clear c18b0
                try clear c19
                try clear c19b0
                try clear c20
                try clear c20b0
                try clear c22
                try clear hx135_0
                try clear hx136_0
                try clear p135
                try clear p136
                try clear p2
                try clear q135
                try clear q136
                obtain ⟨x3_3, x45_3, rfl, HA, HK3, HO_3, HO_4, HB⟩ := hrel
                have hl3_3 := (Kd.S_reads' HO_3.out).1
                rw [hl3_3] at HO_3
                (try simp only [hl3_3])
                (try simp only [hl3_3] at HO_4)
                cases gk with
                | zero => exact absurd HA.out (by simp [barrowlaw26_SettleRounds.l1])
                | succ k3 =>
                  have H := HA.out
                  clear HA
                  simp only [barrowlaw26_SettleRounds.l1] at H
                  by_cases c26 : x45_3 < (t126.length : Int)
                  · rw [if_pos c26] at H
                    have c26b0 : decide (x45_3 < (t126.length : Int)) = true := decide_eq_true c26
                    (try rw [hl3_3] at c26b0)
                    clear c26
                    by_cases c27 : 0 ≤ x45_3
                    · rw [if_pos c27] at H
                      have c27b0 : decide (0 ≤ x45_3) = true := decide_eq_true c27
                      clear c27
                      by_cases c28 : x45_3 < (x3_3.length : Int)
                      · rw [if_pos c28] at H
                        have c28b0 : decide (x45_3 < (x3_3.length : Int)) = true := decide_eq_true c28
                        (try rw [hl3_3] at c28b0)
                        clear c28
                        have H' := Aside0.mk H
                        clear H
                        have p138 : 0 ≤ (x45_3 : Int) := of_decide_eq_true (by first | (with_reducible assumption) | assumption)
                        have q138 : x45_3 < (x3_3.length : Int) := of_decide_eq_true (by first | (with_reducible assumption) | assumption)
                        obtain ⟨ad138, A138_0, c138_0, e138, hx138_0, hl138_0, hi138_0⟩ := at_L3 (Kd.S_reads' HO_3.out).2.2 x45_3 p138 q138
                        cases e138
                        obtain ⟨ce138, hce138, hMe138, hcc138⟩ := Kd.S_get HO_3.out [] x45_3 p138 (by first | exact q138 | exact of_decide_eq_true (by first | (with_reducible assumption) | assumption) | (have e_ := (Kd.S_reads' HO_3.out).1; omega))
                        obtain ⟨ve138_0, rfl, ge138_0⟩ := hMe138
                        have hv138_0 := hcc138 0 _ rfl
                        rw [Nat.add_zero, show ((Kd.slice 26 k26)).sz = 1 from rfl, Nat.mul_one] at hv138_0
                        replace hv138_0 := Option.some.inj (hv138_0.symm.trans hx138_0)
                        rw [hv138_0] at ge138_0
                        have HL138_0 := Aside0.mk (show Kd.R k26 26 _ _ _ _ (rd_L3 x3_3 x45_3) from ge138_0)
                        clear hv138_0 ge138_0
                        have HX138_0 := Aside0.mk hx138_0
                        clear hcc138 hce138
                        have HR138_0 := Aside0.mk hi138_0
                        have HC138_0 := Aside0.mk hl138_0
                        clear hi138_0 hl138_0
                        replace p138 := eq_true p138
                        replace q138 := eq_true q138
                        go_wp2
                        repeat (go_quiet (fail); try go_wp2)
                        go_loopg [53] k3 (fun kq v53 w' => ∃ (x3_4 : List (List (S26))) (x53_4 : Int), v53 = .int .i64 x53_4 ∧ Aside0 (barrowlaw26_SettleRounds.l2 kq a0 x3_4 t129 x45_3 (t126.length : Int) x45_3 ((rd_L3 x3_3 x45_3).length : Int) x53_4 = some r) ∧ Aside0 (kq ≤ k3) ∧ Aside0 (Kd.S (Kd.slice 26 k26) 22 w' w.heap.size (fun _ => True) (.slice (some ad138) x3_3.length co25) x3_4) ∧ Aside0 (Kd.S (Kd.slice 60 k60) 34 w' w.heap.size (fun _ => True) (.slice Ao16 t129.length co16) t129) ∧ Aside0 (Below w.heap.size w w'))
                        case atStart => exact ⟨(x3_3), (0), (by first | rfl | (simp; done) | (simp [*]; done)), H', ⟨Nat.le_refl _⟩, ⟨by (try simp only [hl3_3]); (with_reducible repeat (first | apply Kd.S_alloc | apply Kd.S_drewN | apply Kd.S_drew)); exact HO_3.out⟩, ⟨by (try simp only [hl3_3]); (with_reducible repeat (first | apply Kd.S_alloc | apply Kd.S_drewN | apply Kd.S_drew)); exact HO_4.out⟩, ⟨by repeat (first | (with_reducible first | exact HB.out | apply below_alloc | apply pw_below_drewN | apply below_drew1) | exact HB.out)⟩⟩
                        case round =>
                          clear H'
                          try clear c1
                          try clear p1
                          try clear q1
                          try clear hx1
                          try clear c2
                          try clear p2
                          try clear c5
                          try clear p6
                          try clear c8
                          try clear c8b0
                          try clear c8b1
                          try clear c13
                          try clear p13
                          try clear q13
                          try clear hx13
                          try clear c15
                          try clear c17
                          try clear c17b0
                          try clear c18
                          try clear c18b0
                          try clear c19
                          try clear c19b0
                          try clear c20
                          try clear c20b0
                          try clear c22
                          try clear c26
                          try clear c26b0
                          try clear c27
                          try clear c27b0
                          try clear c28
                          try clear c28b0
                          try clear hx135_0
                          try clear hx136_0
                          try clear hx138_0
                          try clear p1
                          try clear p13
                          try clear p135
                          try clear p136
                          try clear p138
                          try clear p2
                          try clear p6
                          try clear q1
                          try clear q13
                          try clear q135
                          try clear q136
                          try clear q138
                          obtain ⟨x3_4, x53_4, rfl, HA, HK4, HO_3, HO_4, HB⟩ := hrel
                          have hl3_4 := (Kd.S_reads' HO_3.out).1
                          rw [hl3_4] at HO_3
                          (try simp only [hl3_4])
                          (try simp only [hl3_4] at HO_4)
                          cases gk with
                          | zero => exact absurd HA.out (by simp [barrowlaw26_SettleRounds.l2])
                          | succ k4 =>
                            have H := HA.out
                            clear HA
                            simp only [barrowlaw26_SettleRounds.l2] at H
                            by_cases c29 : x53_4 < ((rd_L3 x3_3 x45_3).length : Int)
                            · rw [if_pos c29] at H
                              have c29b0 : decide (x53_4 < ((rd_L3 x3_3 x45_3).length : Int)) = true := decide_eq_true c29
                              (try rw [hl3_3] at c29b0)
                              (try rw [hl3_4] at c29b0)
                              clear c29
                              by_cases c30 : 0 ≤ x45_3
                              · rw [if_pos c30] at H
                                have c30b0 : decide (0 ≤ x45_3) = true := decide_eq_true c30
                                clear c30
                                by_cases c31 : x45_3 < (x3_4.length : Int)
                                · rw [if_pos c31] at H
                                  have c31b0 : decide (x45_3 < (x3_4.length : Int)) = true := decide_eq_true c31
                                  (try rw [hl3_3] at c31b0)
                                  (try rw [hl3_4] at c31b0)
                                  clear c31
                                  by_cases c32 : 0 ≤ x53_4
                                  · rw [if_pos c32] at H
                                    have c32b0 : decide (0 ≤ x53_4) = true := decide_eq_true c32
                                    clear c32
                                    by_cases c33 : x53_4 < ((rd_L3 x3_4 x45_3).length : Int)
                                    · rw [if_pos c33] at H
                                      have c33b0 : decide (x53_4 < ((rd_L3 x3_4 x45_3).length : Int)) = true := decide_eq_true c33
                                      (try rw [hl3_3] at c33b0)
                                      (try rw [hl3_4] at c33b0)
                                      clear c33
                                      obtain ⟨y140, hy140⟩ : ∃ y_ : List (S26), y_ = ((rd_L3 x3_4 x45_3).set (x53_4 : Int).toNat (⟨wrap64 ((-1) - x45_3), x53_4⟩ : S26)) := ⟨_, rfl⟩
                                      replace H : (barrowlaw26_SettleRounds.l2 k4 a0 (x3_4.set (x45_3 : Int).toNat y140) t129 x45_3 (t126.length : Int) x45_3 ((rd_L3 x3_3 x45_3).length : Int) (wrap64 (x53_4 + 1))) = some r := by first | (rw [hy140]; with_reducible exact H) | (have H2_ := (Option.bind_some _ _).symm.trans H; rw [hy140]; with_reducible exact H2_) | (have H2_ := (Option.bind_some _ _).symm.trans H; with_reducible exact H2_) | with_reducible exact H | (rw [hy140]; exact H) | exact H
                                      have Ny140 := Aside0.mk hy140
                                      clear hy140
                                      obtain ⟨y142, hy142⟩ : ∃ y_ : List (List (S26)), y_ = (x3_4.set (x45_3 : Int).toNat y140) := ⟨_, rfl⟩
                                      replace H : (barrowlaw26_SettleRounds.l2 k4 a0 y142 t129 x45_3 (t126.length : Int) x45_3 ((rd_L3 x3_3 x45_3).length : Int) (wrap64 (x53_4 + 1))) = some r := by first | (rw [hy142]; with_reducible exact H) | (have H2_ := (Option.bind_some _ _).symm.trans H; rw [hy142]; with_reducible exact H2_) | (have H2_ := (Option.bind_some _ _).symm.trans H; with_reducible exact H2_) | with_reducible exact H | (rw [hy142]; exact H) | exact H
                                      have Ny142 := Aside0.mk hy142
                                      clear hy142
                                      have H' := Aside0.mk H
                                      clear H
                                      have p139 : 0 ≤ (x45_3 : Int) := of_decide_eq_true (by first | (with_reducible assumption) | assumption)
                                      have q139 : x45_3 < (x3_4.length : Int) := of_decide_eq_true (by first | (with_reducible assumption) | assumption)
                                      obtain ⟨ad139, A139_0, c139_0, e139, hx139_0, hl139_0, hi139_0⟩ := at_L3 (Kd.S_reads' HO_3.out).2.2 x45_3 p139 q139
                                      obtain rfl : ad138 = ad139 := (by injection e139)
                                      obtain ⟨ce139, hce139, hMe139, hcc139⟩ := Kd.S_get HO_3.out [] x45_3 p139 (by first | exact q139 | exact of_decide_eq_true (by first | (with_reducible assumption) | assumption) | (have e_ := (Kd.S_reads' HO_3.out).1; omega))
                                      obtain ⟨ve139_0, rfl, ge139_0⟩ := hMe139
                                      have hv139_0 := hcc139 0 _ rfl
                                      rw [Nat.add_zero, show ((Kd.slice 26 k26)).sz = 1 from rfl, Nat.mul_one] at hv139_0
                                      replace hv139_0 := Option.some.inj (hv139_0.symm.trans hx139_0)
                                      rw [hv139_0] at ge139_0
                                      have HL139_0 := Aside0.mk (show Kd.R k26 26 _ _ _ _ (rd_L3 x3_4 x45_3) from ge139_0)
                                      clear hv139_0 ge139_0
                                      have HX139_0 := Aside0.mk hx139_0
                                      clear hcc139 hce139
                                      have HR139_0 := Aside0.mk hi139_0
                                      have HC139_0 := Aside0.mk hl139_0
                                      clear hi139_0 hl139_0
                                      replace p139 := eq_true p139
                                      replace q139 := eq_true q139
                                      have p34 : 0 ≤ (x53_4 : Int) := of_decide_eq_true (by first | (with_reducible assumption) | assumption)
                                      have q34 : (x53_4 : Int) < (((rd_L3 x3_4 x45_3).length : Int) : Int) := of_decide_eq_true (by first | (with_reducible assumption) | assumption)
                                      obtain ⟨go34, co34, eo34, gb34, gl34, cl34, HG34⟩ := Kd.R_form HL139_0.out (by omega)
                                      (first | cases eo34 | (injection eo34 with ea_ en_ ec_; (first | subst ea_ | (injection ea_ with ea_; subst ea_)); subst ec_; clear en_))
                                      have GB34 := Aside0.mk gb34
                                      have GG34 := Aside0.mk HG34
                                      clear gb34 gl34 HG34
                                      obtain ⟨ce34, hcl34, hM34, hcc34, hfr34⟩ := Kd.R_elem HL139_0.out z26 (x53_4 : Int) p34 q34
                                      obtain rfl := k26_openM hM34
                                      have hx34_0 : wr.cell? ⟨go34, (x53_4 : Int).toNat * 2, none⟩ = some (.int .i64 ((rd_T26 (rd_L3 x3_4 x45_3) x53_4).f0)) := hcc34 0 _ rfl
                                      have hx34_1 : wr.cell? ⟨go34, (x53_4 : Int).toNat * 2 + 1, none⟩ = some (.int .i64 ((rd_T26 (rd_L3 x3_4 x45_3) x53_4).f1)) := hcc34 1 _ rfl
                                      have hf34_0 : wr.frozen? ⟨go34, (x53_4 : Int).toNat * 2, none⟩ = false := hfr34 0
                                      have hf34_1 : wr.frozen? ⟨go34, (x53_4 : Int).toNat * 2 + 1, none⟩ = false := hfr34 1
                                      clear hcl34 hcc34 hfr34 hM34
                                      replace p34 := eq_true p34
                                      replace q34 := eq_true q34
                                      have hq35 : (x45_3 : Int) < (x3_4.length : Int) := (by have h_ : (x45_3 : Int) < ((x3_4.length : Int) : Int) := of_decide_eq_true (by first | (with_reducible assumption) | assumption); first | exact h_ | (have e_ := (Kd.S_reads' HO_3.out).1; omega) | simpa only [List.length_set, List.length_set] using h_)
                                      obtain ⟨oki35, ce35, hcl35, hM35, hcc35, hok35, hbk35⟩ := Kd.S_borrow HO_3.out [] (x45_3 : Int) (of_decide_eq_true (by first | (with_reducible assumption) | assumption)) hq35
                                      obtain ⟨ve35_0, rfl, ge35_0⟩ := hM35
                                      have hv35 := hcc35 0 _ rfl
                                      rw [Nat.add_zero, show ((Kd.slice 26 k26)).sz = 1 from rfl, Nat.mul_one] at hv35
                                      replace hv35 := Option.some.inj (hv35.symm.trans HX139_0.out)
                                      subst hv35
                                      clear hcc35 hcl35
                                      replace ge35_0 := (show Kd.R k26 26 _ _ _ _ (rd_L3 x3_4 x45_3) from ge35_0)
                                      obtain ⟨cf35, hcl35, hN35, hcc35, hfr35⟩ := Kd.R_elem ge35_0 z26 (x53_4 : Int) (of_decide_eq_true (by first | (with_reducible assumption) | assumption)) (by have h_ : (x53_4 : Int) < (((rd_L3 x3_4 x45_3).length : Int) : Int) := of_decide_eq_true (by first | (with_reducible assumption) | assumption); first | exact h_ | (have e_ := (Kd.R_reads' HR139_0.out).1; omega) | simpa using h_)
                                      obtain rfl := k26_openM hN35
                                      have HP35 := Kd.R_seg ge35_0 (x53_4 : Int) (of_decide_eq_true (by first | (with_reducible assumption) | assumption)) (by have h_ : (x53_4 : Int) < (((rd_L3 x3_4 x45_3).length : Int) : Int) := of_decide_eq_true (by first | (with_reducible assumption) | assumption); first | exact h_ | (have e_ := (Kd.R_reads' HR139_0.out).1; omega) | simpa using h_) (seg := [.int .i64 (wrap64 ((-1) - x45_3)), .int .i64 x53_4]) (j := 0) hcl35 hcc35 (show 2 ≤ 2 from by decide) (x' := (⟨wrap64 ((-1) - x45_3), x53_4⟩ : S26)) (k26_mkM _ _ _ (⟨wrap64 ((-1) - x45_3), x53_4⟩ : S26)) (fun _ hk => hk)
                                      clear hcl35 hcc35 hfr35 hN35
                                      go_wp2_with (first | ((with_reducible refine gate_store (t := 26) (p := 65) rfl ?_); (try (rw [drewN_self wr]; generalize hq_ : World.drewN wr _ = wr; have n0_ := Aside0.mk (Kd.S_at hq_ HO_3.out); have n1_ := Aside0.mk (Kd.S_at hq_ HO_4.out); have n2_ := Aside0.mk (Kd.R_at hq_ HL157.out); have n3_ := Aside0.mk (below_at hq_ HB.out); clear hq_ HO_3 HO_4 HL157 HB; have HO_3 := n0_; have HO_4 := n1_; have HL157 := n2_; have HB := n3_; clear n0_ n1_ n2_ n3_; (try (have hq35 : (x45_3 : Int) < (x3_4.length : Int) := (by have h_ : (x45_3 : Int) < ((x3_4.length : Int) : Int) := of_decide_eq_true (by first | (with_reducible assumption) | assumption); first | exact h_ | (have e_ := (Kd.S_reads' HO_3.out).1; omega) | simpa only [List.length_set, List.length_set] using h_))); (try (obtain ⟨oki35, ce35, hcl35, hM35, hcc35, hok35, hbk35⟩ := Kd.S_borrow HO_3.out [] (x45_3 : Int) (of_decide_eq_true (by first | (with_reducible assumption) | assumption)) hq35)); (try (obtain ⟨ve35_0, rfl, ge35_0⟩ := hM35)); (try (have hv35 := hcc35 0 _ rfl)); (try (rw [Nat.add_zero, show ((Kd.slice 26 k26)).sz = 1 from rfl, Nat.mul_one] at hv35)); (try (replace hv35 := Option.some.inj (hv35.symm.trans HX139_0.out))); (try (subst hv35)); (try (clear hcc35 hcl35)); (try (replace ge35_0 := (show Kd.R k26 26 _ _ _ _ (rd_L3 x3_4 x45_3) from ge35_0))); (try (obtain ⟨cf35, hcl35, hN35, hcc35, hfr35⟩ := Kd.R_elem ge35_0 z26 (x53_4 : Int) (of_decide_eq_true (by first | (with_reducible assumption) | assumption)) (by have h_ : (x53_4 : Int) < (((rd_L3 x3_4 x45_3).length : Int) : Int) := of_decide_eq_true (by first | (with_reducible assumption) | assumption); first | exact h_ | (have e_ := (Kd.R_reads' HR139_0.out).1; omega) | simpa using h_))); (try (obtain rfl := k26_openM hN35)); (try (have HP35 := Kd.R_seg ge35_0 (x53_4 : Int) (of_decide_eq_true (by first | (with_reducible assumption) | assumption)) (by have h_ : (x53_4 : Int) < (((rd_L3 x3_4 x45_3).length : Int) : Int) := of_decide_eq_true (by first | (with_reducible assumption) | assumption); first | exact h_ | (have e_ := (Kd.R_reads' HR139_0.out).1; omega) | simpa using h_) (seg := [.int .i64 (wrap64 ((-1) - x45_3)), .int .i64 x53_4]) (j := 0) hcl35 hcc35 (show 2 ≤ 2 from by decide) (x' := (⟨wrap64 ((-1) - x45_3), x53_4⟩ : S26)) (k26_mkM _ _ _ (⟨wrap64 ((-1) - x45_3), x53_4⟩ : S26)) (fun _ hk => hk))); (try (clear hcl35 hcc35 hfr35 hN35)))); refine store_event (t := 26) (p := 65) (v := ?vo_w36) (w1 := ((wr.setCell ⟨go34, (x53_4 : Int).toNat * 2, none⟩ (.int .i64 (wrap64 ((-1) - x45_3)))).setCell ⟨go34, (x53_4 : Int).toNat * 2 + 1, none⟩ (.int .i64 x53_4))) ?hg ?ho ?hn ?hr ?_; (case ho => rfl); (case hg => rfl); (case hn => rfl); (case hr => first | (go_simp; done) | (go_simp; rfl)); intro w36 hw; have hg : wr.grownBy w36 (some go34) := (by rw [hw]; exact HP35.2); have hz_ : Kd.R k26 26 w36 w.heap.size oki35 (.slice (some ⟨go34, 0, none⟩) (rd_L3 x3_4 x45_3).length c139_0) y140 := (by rw [hw, Ny140.out]; exact HP35.1); have hp_ : Kd.S (Kd.slice 26 k26) 22 w36 w.heap.size (fun _ => True) (.slice (some ad138) x3_4.length co25) y142 := (by rw [Ny142.out]; exact hbk35 hg (fun k_ e_ => by injection e_ with e_; subst e_; exact ge35_0.1 _ rfl) (Kd.M_row hz_)); have hm_ := Kd.R_mono hz_ hok35; clear HP35 hbk35; have n0_ := Aside0.mk (hp_); have n1_ := Aside0.mk (Kd.S_over' (v := (.slice (some ⟨go34, 0, none⟩) (rd_L3 x3_4 x45_3).length c139_0)) (by (with_reducible repeat (first | apply Kd.S_alloc | apply Kd.S_drewN | apply Kd.S_drew)); exact HO_4.out) (Kd.R_typed HL139_0.out) (by decide) hg); have n2_ := Aside0.mk ((by rw [hw]; exact below_set (below_set (HB.out) GB34.out) GB34.out : Below w.heap.size w w36)); have n3_ := Aside0.mk (hm_); have n4_ := Aside0.mk ((Kd.R_reads' hm_).2.1); clear HO_3; clear HO_4; clear HB; clear HL139_0; have HO_3 := n0_; have HO_4 := n1_; have HB := n2_; have HL157 := n3_; have HC141 := n4_; clear n0_ n1_ n2_ n3_ n4_; clear hg hw hp_ hz_ hm_ hok35))
                                      repeat (go_quiet (first | ((with_reducible refine gate_store (t := 26) (p := 65) rfl ?_); (try (rw [drewN_self wr]; generalize hq_ : World.drewN wr _ = wr; have n0_ := Aside0.mk (Kd.S_at hq_ HO_3.out); have n1_ := Aside0.mk (Kd.S_at hq_ HO_4.out); have n2_ := Aside0.mk (Kd.R_at hq_ HL157.out); have n3_ := Aside0.mk (below_at hq_ HB.out); clear hq_ HO_3 HO_4 HL157 HB; have HO_3 := n0_; have HO_4 := n1_; have HL157 := n2_; have HB := n3_; clear n0_ n1_ n2_ n3_; (try (have hq35 : (x45_3 : Int) < (x3_4.length : Int) := (by have h_ : (x45_3 : Int) < ((x3_4.length : Int) : Int) := of_decide_eq_true (by first | (with_reducible assumption) | assumption); first | exact h_ | (have e_ := (Kd.S_reads' HO_3.out).1; omega) | simpa only [List.length_set, List.length_set] using h_))); (try (obtain ⟨oki35, ce35, hcl35, hM35, hcc35, hok35, hbk35⟩ := Kd.S_borrow HO_3.out [] (x45_3 : Int) (of_decide_eq_true (by first | (with_reducible assumption) | assumption)) hq35)); (try (obtain ⟨ve35_0, rfl, ge35_0⟩ := hM35)); (try (have hv35 := hcc35 0 _ rfl)); (try (rw [Nat.add_zero, show ((Kd.slice 26 k26)).sz = 1 from rfl, Nat.mul_one] at hv35)); (try (replace hv35 := Option.some.inj (hv35.symm.trans HX139_0.out))); (try (subst hv35)); (try (clear hcc35 hcl35)); (try (replace ge35_0 := (show Kd.R k26 26 _ _ _ _ (rd_L3 x3_4 x45_3) from ge35_0))); (try (obtain ⟨cf35, hcl35, hN35, hcc35, hfr35⟩ := Kd.R_elem ge35_0 z26 (x53_4 : Int) (of_decide_eq_true (by first | (with_reducible assumption) | assumption)) (by have h_ : (x53_4 : Int) < (((rd_L3 x3_4 x45_3).length : Int) : Int) := of_decide_eq_true (by first | (with_reducible assumption) | assumption); first | exact h_ | (have e_ := (Kd.R_reads' HR139_0.out).1; omega) | simpa using h_))); (try (obtain rfl := k26_openM hN35)); (try (have HP35 := Kd.R_seg ge35_0 (x53_4 : Int) (of_decide_eq_true (by first | (with_reducible assumption) | assumption)) (by have h_ : (x53_4 : Int) < (((rd_L3 x3_4 x45_3).length : Int) : Int) := of_decide_eq_true (by first | (with_reducible assumption) | assumption); first | exact h_ | (have e_ := (Kd.R_reads' HR139_0.out).1; omega) | simpa using h_) (seg := [.int .i64 (wrap64 ((-1) - x45_3)), .int .i64 x53_4]) (j := 0) hcl35 hcc35 (show 2 ≤ 2 from by decide) (x' := (⟨wrap64 ((-1) - x45_3), x53_4⟩ : S26)) (k26_mkM _ _ _ (⟨wrap64 ((-1) - x45_3), x53_4⟩ : S26)) (fun _ hk => hk))); (try (clear hcl35 hcc35 hfr35 hN35)))); refine store_event (t := 26) (p := 65) (v := ?vo_w36) (w1 := ((wr.setCell ⟨go34, (x53_4 : Int).toNat * 2, none⟩ (.int .i64 (wrap64 ((-1) - x45_3)))).setCell ⟨go34, (x53_4 : Int).toNat * 2 + 1, none⟩ (.int .i64 x53_4))) ?hg ?ho ?hn ?hr ?_; (case ho => rfl); (case hg => rfl); (case hn => rfl); (case hr => first | (go_simp; done) | (go_simp; rfl)); intro w36 hw; have hg : wr.grownBy w36 (some go34) := (by rw [hw]; exact HP35.2); have hz_ : Kd.R k26 26 w36 w.heap.size oki35 (.slice (some ⟨go34, 0, none⟩) (rd_L3 x3_4 x45_3).length c139_0) y140 := (by rw [hw, Ny140.out]; exact HP35.1); have hp_ : Kd.S (Kd.slice 26 k26) 22 w36 w.heap.size (fun _ => True) (.slice (some ad138) x3_4.length co25) y142 := (by rw [Ny142.out]; exact hbk35 hg (fun k_ e_ => by injection e_ with e_; subst e_; exact ge35_0.1 _ rfl) (Kd.M_row hz_)); have hm_ := Kd.R_mono hz_ hok35; clear HP35 hbk35; have n0_ := Aside0.mk (hp_); have n1_ := Aside0.mk (Kd.S_over' (v := (.slice (some ⟨go34, 0, none⟩) (rd_L3 x3_4 x45_3).length c139_0)) (by (with_reducible repeat (first | apply Kd.S_alloc | apply Kd.S_drewN | apply Kd.S_drew)); exact HO_4.out) (Kd.R_typed HL139_0.out) (by decide) hg); have n2_ := Aside0.mk ((by rw [hw]; exact below_set (below_set (HB.out) GB34.out) GB34.out : Below w.heap.size w w36)); have n3_ := Aside0.mk (hm_); have n4_ := Aside0.mk ((Kd.R_reads' hm_).2.1); clear HO_3; clear HO_4; clear HB; clear HL139_0; have HO_3 := n0_; have HO_4 := n1_; have HB := n2_; have HL157 := n3_; have HC141 := n4_; clear n0_ n1_ n2_ n3_ n4_; clear hg hw hp_ hz_ hm_ hok35)); try go_wp2_with (first | ((with_reducible refine gate_store (t := 26) (p := 65) rfl ?_); (try (rw [drewN_self wr]; generalize hq_ : World.drewN wr _ = wr; have n0_ := Aside0.mk (Kd.S_at hq_ HO_3.out); have n1_ := Aside0.mk (Kd.S_at hq_ HO_4.out); have n2_ := Aside0.mk (Kd.R_at hq_ HL157.out); have n3_ := Aside0.mk (below_at hq_ HB.out); clear hq_ HO_3 HO_4 HL157 HB; have HO_3 := n0_; have HO_4 := n1_; have HL157 := n2_; have HB := n3_; clear n0_ n1_ n2_ n3_; (try (have hq35 : (x45_3 : Int) < (x3_4.length : Int) := (by have h_ : (x45_3 : Int) < ((x3_4.length : Int) : Int) := of_decide_eq_true (by first | (with_reducible assumption) | assumption); first | exact h_ | (have e_ := (Kd.S_reads' HO_3.out).1; omega) | simpa only [List.length_set, List.length_set] using h_))); (try (obtain ⟨oki35, ce35, hcl35, hM35, hcc35, hok35, hbk35⟩ := Kd.S_borrow HO_3.out [] (x45_3 : Int) (of_decide_eq_true (by first | (with_reducible assumption) | assumption)) hq35)); (try (obtain ⟨ve35_0, rfl, ge35_0⟩ := hM35)); (try (have hv35 := hcc35 0 _ rfl)); (try (rw [Nat.add_zero, show ((Kd.slice 26 k26)).sz = 1 from rfl, Nat.mul_one] at hv35)); (try (replace hv35 := Option.some.inj (hv35.symm.trans HX139_0.out))); (try (subst hv35)); (try (clear hcc35 hcl35)); (try (replace ge35_0 := (show Kd.R k26 26 _ _ _ _ (rd_L3 x3_4 x45_3) from ge35_0))); (try (obtain ⟨cf35, hcl35, hN35, hcc35, hfr35⟩ := Kd.R_elem ge35_0 z26 (x53_4 : Int) (of_decide_eq_true (by first | (with_reducible assumption) | assumption)) (by have h_ : (x53_4 : Int) < (((rd_L3 x3_4 x45_3).length : Int) : Int) := of_decide_eq_true (by first | (with_reducible assumption) | assumption); first | exact h_ | (have e_ := (Kd.R_reads' HR139_0.out).1; omega) | simpa using h_))); (try (obtain rfl := k26_openM hN35)); (try (have HP35 := Kd.R_seg ge35_0 (x53_4 : Int) (of_decide_eq_true (by first | (with_reducible assumption) | assumption)) (by have h_ : (x53_4 : Int) < (((rd_L3 x3_4 x45_3).length : Int) : Int) := of_decide_eq_true (by first | (with_reducible assumption) | assumption); first | exact h_ | (have e_ := (Kd.R_reads' HR139_0.out).1; omega) | simpa using h_) (seg := [.int .i64 (wrap64 ((-1) - x45_3)), .int .i64 x53_4]) (j := 0) hcl35 hcc35 (show 2 ≤ 2 from by decide) (x' := (⟨wrap64 ((-1) - x45_3), x53_4⟩ : S26)) (k26_mkM _ _ _ (⟨wrap64 ((-1) - x45_3), x53_4⟩ : S26)) (fun _ hk => hk))); (try (clear hcl35 hcc35 hfr35 hN35)))); refine store_event (t := 26) (p := 65) (v := ?vo_w36) (w1 := ((wr.setCell ⟨go34, (x53_4 : Int).toNat * 2, none⟩ (.int .i64 (wrap64 ((-1) - x45_3)))).setCell ⟨go34, (x53_4 : Int).toNat * 2 + 1, none⟩ (.int .i64 x53_4))) ?hg ?ho ?hn ?hr ?_; (case ho => rfl); (case hg => rfl); (case hn => rfl); (case hr => first | (go_simp; done) | (go_simp; rfl)); intro w36 hw; have hg : wr.grownBy w36 (some go34) := (by rw [hw]; exact HP35.2); have hz_ : Kd.R k26 26 w36 w.heap.size oki35 (.slice (some ⟨go34, 0, none⟩) (rd_L3 x3_4 x45_3).length c139_0) y140 := (by rw [hw, Ny140.out]; exact HP35.1); have hp_ : Kd.S (Kd.slice 26 k26) 22 w36 w.heap.size (fun _ => True) (.slice (some ad138) x3_4.length co25) y142 := (by rw [Ny142.out]; exact hbk35 hg (fun k_ e_ => by injection e_ with e_; subst e_; exact ge35_0.1 _ rfl) (Kd.M_row hz_)); have hm_ := Kd.R_mono hz_ hok35; clear HP35 hbk35; have n0_ := Aside0.mk (hp_); have n1_ := Aside0.mk (Kd.S_over' (v := (.slice (some ⟨go34, 0, none⟩) (rd_L3 x3_4 x45_3).length c139_0)) (by (with_reducible repeat (first | apply Kd.S_alloc | apply Kd.S_drewN | apply Kd.S_drew)); exact HO_4.out) (Kd.R_typed HL139_0.out) (by decide) hg); have n2_ := Aside0.mk ((by rw [hw]; exact below_set (below_set (HB.out) GB34.out) GB34.out : Below w.heap.size w w36)); have n3_ := Aside0.mk (hm_); have n4_ := Aside0.mk ((Kd.R_reads' hm_).2.1); clear HO_3; clear HO_4; clear HB; clear HL139_0; have HO_3 := n0_; have HO_4 := n1_; have HB := n2_; have HL157 := n3_; have HC141 := n4_; clear n0_ n1_ n2_ n3_ n4_; clear hg hw hp_ hz_ hm_ hok35)))
                                      (try simp only [← hl3_4])
                                      go_roundg k4
                                      case measure => have := HJ3.out; have := HK2.out; have := HK3.out; have := HK4.out; omega
                                      case rel => exact ⟨(y142), (wrap64 (x53_4 + 1)), (by first | rfl | (simp; done) | (simp [*]; done)), H', ⟨by have := HJ3.out; have := HK2.out; have := HK3.out; have := HK4.out; omega⟩, ⟨by (try simp only [hl3_3]); (try simp only [hl3_4]); (with_reducible repeat (first | apply Kd.S_alloc | apply Kd.S_drewN | apply Kd.S_drew)); exact HO_3.out⟩, ⟨by (try simp only [hl3_3]); (try simp only [hl3_4]); (with_reducible repeat (first | apply Kd.S_alloc | apply Kd.S_drewN | apply Kd.S_drew)); exact HO_4.out⟩, ⟨by repeat (first | (with_reducible first | exact HB.out | apply below_alloc | apply pw_below_drewN | apply below_drew1) | exact HB.out)⟩⟩
                                    · rw [if_neg c33] at H
                                      exact absurd H (by simp)
                                  · rw [if_neg c32] at H
                                    exact absurd H (by simp)
                                · rw [if_neg c31] at H
                                  exact absurd H (by simp)
                              · rw [if_neg c30] at H
                                exact absurd H (by simp)
                            · rw [if_neg c29] at H
                              have c29b0 : decide (x53_4 < ((rd_L3 x3_3 x45_3).length : Int)) = false := decide_eq_false c29
                              (try rw [hl3_3] at c29b0)
                              (try rw [hl3_4] at c29b0)
                              clear c29
                              have H' := Aside0.mk H
                              clear H
                              go_wp2
                              repeat (go_quiet (fail); try go_wp2)
                              (try simp only [← hl3_3, ← hl3_4])
                              go_roundg k4
                              case measure => have := HJ3.out; have := HK2.out; have := HK3.out; have := HK4.out; omega
                              case rel => exact ⟨(x3_4), (wrap64 (x45_3 + 1)), (by first | rfl | (simp; done) | (simp [*]; done)), H', ⟨by have := HJ3.out; have := HK2.out; have := HK3.out; have := HK4.out; omega⟩, ⟨by (try simp only [hl3_3]); (try simp only [hl3_4]); (with_reducible repeat (first | apply Kd.S_alloc | apply Kd.S_drewN | apply Kd.S_drew)); exact HO_3.out⟩, ⟨by (try simp only [hl3_3]); (try simp only [hl3_4]); (with_reducible repeat (first | apply Kd.S_alloc | apply Kd.S_drewN | apply Kd.S_drew)); exact HO_4.out⟩, ⟨by repeat (first | (with_reducible first | exact HB.out | apply below_alloc | apply pw_below_drewN | apply below_drew1) | exact HB.out)⟩⟩
                      · rw [if_neg c28] at H
                        exact absurd H (by simp)
                    · rw [if_neg c27] at H
                      exact absurd H (by simp)
                  · rw [if_neg c26] at H
                    have c26b0 : decide (x45_3 < (t126.length : Int)) = false := decide_eq_false c26
                    (try rw [hl3_3] at c26b0)
                    (try rw [hl3_4] at c26b0)
                    clear c26
                    have H' := Aside0.mk H
                    clear H
                    go_wp2
                    repeat (go_quiet (fail); try go_wp2)
                    go_loopg [70] k3 (fun kq v70 w' => ∃ (x3_4 : List (List (S26))) (x70_4 : Int), v70 = .int .i64 x70_4 ∧ Aside0 (barrowlaw26_SettleRounds.l3 kq a0 x3_4 t129 (x3_3.length : Int) x70_4 = some r) ∧ Aside0 (kq ≤ k3) ∧ Aside0 (Kd.S (Kd.slice 26 k26) 22 w' w.heap.size (fun _ => True) (.slice Ao25 x3_3.length co25) x3_4) ∧ Aside0 (Kd.S (Kd.slice 60 k60) 34 w' w.heap.size (fun _ => True) (.slice Ao16 t129.length co16) t129) ∧ Aside0 (Below w.heap.size w w'))
                    case atStart => exact ⟨(x3_3), (0), (by first | rfl | (simp; done) | (simp [*]; done)), H', ⟨Nat.le_refl _⟩, ⟨by (try simp only [hl3_3]); (with_reducible repeat (first | apply Kd.S_alloc | apply Kd.S_drewN | apply Kd.S_drew)); exact HO_3.out⟩, ⟨by (try simp only [hl3_3]); (with_reducible repeat (first | apply Kd.S_alloc | apply Kd.S_drewN | apply Kd.S_drew)); exact HO_4.out⟩, ⟨by repeat (first | (with_reducible first | exact HB.out | apply below_alloc | apply pw_below_drewN | apply below_drew1) | exact HB.out)⟩⟩
                    case round =>
                      clear H'
                      try clear c1
                      try clear p1
                      try clear q1
                      try clear hx1
                      try clear c2
                      try clear p2
                      try clear c3
                      try clear p3
                      try clear q3
                      try clear hx3
                      try clear hf3
                      try clear c5
                      try clear p6
                      try clear c8
                      try clear c8b0
                      try clear c8b1
                      try clear c13
                      try clear p13
                      try clear q13
                      try clear hx13
                      try clear c15
                      try clear c17
                      try clear c17b0
                      try clear c18
                      try clear c18b0
                      try clear c19
                      try clear c19b0
                      try clear c20
                      try clear c20b0
                      try clear c22
                      try clear c26
                      try clear c26b0
                      try clear c27
                      try clear c27b0
                      try clear c28
                      try clear c28b0
                      try clear c29
                      try clear c29b0
                      try clear c30
                      try clear c30b0
                      try clear c31
                      try clear c31b0
                      try clear c32
                      try clear c32b0
                      try clear c33
                      try clear c33b0
                      try clear c34
                      try clear p34
                      try clear q34
                      try clear hx34
                      try clear hf34
                      try clear c35
                      try clear q35
                      try clear hx135_0
                      try clear hx136_0
                      try clear hx138_0
                      try clear hx139_0
                      try clear hx34_0
                      try clear hx34_1
                      try clear p1
                      try clear p13
                      try clear p135
                      try clear p136
                      try clear p138
                      try clear p139
                      try clear p2
                      try clear p34
                      try clear p6
                      try clear q1
                      try clear q13
                      try clear q135
                      try clear q136
                      try clear q138
                      try clear q139
                      try clear q34
                      obtain ⟨x3_4, x70_4, rfl, HA, HK4, HO_3, HO_4, HB⟩ := hrel
                      have hl3_4 := (Kd.S_reads' HO_3.out).1
                      rw [hl3_4] at HO_3
                      (try simp only [hl3_4])
                      (try simp only [hl3_4] at HO_4)
                      cases gk with
                      | zero => exact absurd HA.out (by simp [barrowlaw26_SettleRounds.l3])
                      | succ k4 =>
                        have H := HA.out
                        clear HA
                        simp only [barrowlaw26_SettleRounds.l3] at H
                        by_cases c37 : x70_4 < (x3_3.length : Int)
                        · rw [if_pos c37] at H
                          have c37b0 : decide (x70_4 < (x3_3.length : Int)) = true := decide_eq_true c37
                          (try rw [hl3_3] at c37b0)
                          (try rw [hl3_4] at c37b0)
                          clear c37
                          have H' := Aside0.mk H
                          clear H
                          go_wp2
                          repeat (go_quiet (fail); try go_wp2)
                          go_loopg [73] k4 (fun kq v73 w' => ∃ (x3_5 : List (List (S26))) (x73_5 : Int), v73 = .int .i64 x73_5 ∧ Aside0 (barrowlaw26_SettleRounds.l4 kq a0 x3_5 t129 x70_4 (x3_3.length : Int) x70_4 x73_5 = some r) ∧ Aside0 (kq ≤ k4) ∧ Aside0 (Kd.S (Kd.slice 26 k26) 22 w' w.heap.size (fun _ => True) (.slice Ao25 x3_4.length co25) x3_5) ∧ Aside0 (Kd.S (Kd.slice 60 k60) 34 w' w.heap.size (fun _ => True) (.slice Ao16 t129.length co16) t129) ∧ Aside0 (Below w.heap.size w w'))
                          case atStart => exact ⟨(x3_4), (0), (by first | rfl | (simp; done) | (simp [*]; done)), H', ⟨Nat.le_refl _⟩, ⟨by (try simp only [hl3_3]); (try simp only [hl3_4]); (with_reducible repeat (first | apply Kd.S_alloc | apply Kd.S_drewN | apply Kd.S_drew)); exact HO_3.out⟩, ⟨by (try simp only [hl3_3]); (try simp only [hl3_4]); (with_reducible repeat (first | apply Kd.S_alloc | apply Kd.S_drewN | apply Kd.S_drew)); exact HO_4.out⟩, ⟨by repeat (first | (with_reducible first | exact HB.out | apply below_alloc | apply pw_below_drewN | apply below_drew1) | exact HB.out)⟩⟩
                          case round =>
                            clear H'
                            try clear c1
                            try clear p1
                            try clear q1
                            try clear hx1
                            try clear c2
                            try clear p2
                            try clear c3
                            try clear p3
                            try clear q3
                            try clear hx3
                            try clear hf3
                            try clear c5
                            try clear p6
                            try clear c8
                            try clear c8b0
                            try clear c8b1
                            try clear c13
                            try clear p13
                            try clear q13
                            try clear hx13
                            try clear c15
                            try clear c17
                            try clear c17b0
                            try clear c18
                            try clear c18b0
                            try clear c19
                            try clear c19b0
                            try clear c20
                            try clear c20b0
                            try clear c22
                            try clear c26
                            try clear c26b0
                            try clear c27
                            try clear c27b0
                            try clear c28
                            try clear c28b0
                            try clear c29
                            try clear c29b0
                            try clear c30
                            try clear c30b0
                            try clear c31
                            try clear c31b0
                            try clear c32
                            try clear c32b0
                            try clear c33
                            try clear c33b0
                            try clear c34
                            try clear p34
                            try clear q34
                            try clear hx34
                            try clear hf34
                            try clear c35
                            try clear q35
                            try clear c37
                            try clear c37b0
                            try clear hx135_0
                            try clear hx136_0
                            try clear hx138_0
                            try clear hx139_0
                            try clear hx34_0
                            try clear hx34_1
                            try clear p1
                            try clear p13
                            try clear p135
                            try clear p136
                            try clear p138
                            try clear p139
                            try clear p2
                            try clear p3
                            try clear p34
                            try clear p6
                            try clear q1
                            try clear q13
                            try clear q135
                            try clear q136
                            try clear q138
                            try clear q139
                            try clear q3
                            try clear q34
                            try clear q35
                            obtain ⟨x3_5, x73_5, rfl, HA, HK5, HO_3, HO_4, HB⟩ := hrel
                            have hl3_5 := (Kd.S_reads' HO_3.out).1
                            rw [hl3_5] at HO_3
                            (try simp only [hl3_5])
                            (try simp only [hl3_5] at HO_4)
                            cases gk with
                            | zero => exact absurd HA.out (by simp [barrowlaw26_SettleRounds.l4])
                            | succ k5 =>
                              have H := HA.out
                              clear HA
                              simp only [barrowlaw26_SettleRounds.l4] at H
                              by_cases c38 : x73_5 < 40
                              · rw [if_pos c38] at H
                                have c38b0 : decide (x73_5 < 40) = true := decide_eq_true c38
                                clear c38
                                by_cases c39 : 0 ≤ x70_4
                                · rw [if_pos c39] at H
                                  have c39b0 : decide (0 ≤ x70_4) = true := decide_eq_true c39
                                  clear c39
                                  by_cases c40 : x70_4 < (x3_5.length : Int)
                                  · rw [if_pos c40] at H
                                    have c40b0 : decide (x70_4 < (x3_5.length : Int)) = true := decide_eq_true c40
                                    (try rw [hl3_3] at c40b0)
                                    (try rw [hl3_4] at c40b0)
                                    (try rw [hl3_5] at c40b0)
                                    clear c40
                                    by_cases c41 : (rd_L3 x3_5 x70_4).length < 8796093022208
                                    · rw [if_pos c41] at H
                                      have LMc41 := Aside0.mk c41
                                      clear c41
                                      obtain ⟨y144, hy144⟩ : ∃ y_ : List (S26), y_ = ((rd_L3 x3_5 x70_4) ++ [(⟨wrap64 ((-100) - x70_4), 0⟩ : S26)]) := ⟨_, rfl⟩
                                      replace H : (barrowlaw26_SettleRounds.l4 k5 a0 (x3_5.set (x70_4 : Int).toNat y144) t129 x70_4 (x3_3.length : Int) x70_4 (wrap64 (x73_5 + 1))) = some r := by first | (rw [hy144]; with_reducible exact H) | (have H2_ := (Option.bind_some _ _).symm.trans H; rw [hy144]; with_reducible exact H2_) | (have H2_ := (Option.bind_some _ _).symm.trans H; with_reducible exact H2_) | with_reducible exact H | (rw [hy144]; exact H) | exact H
                                      have Ny144 := Aside0.mk hy144
                                      clear hy144
                                      obtain ⟨y147, hy147⟩ : ∃ y_ : List (List (S26)), y_ = (x3_5.set (x70_4 : Int).toNat y144) := ⟨_, rfl⟩
                                      replace H : (barrowlaw26_SettleRounds.l4 k5 a0 y147 t129 x70_4 (x3_3.length : Int) x70_4 (wrap64 (x73_5 + 1))) = some r := by first | (rw [hy147]; with_reducible exact H) | (have H2_ := (Option.bind_some _ _).symm.trans H; rw [hy147]; with_reducible exact H2_) | (have H2_ := (Option.bind_some _ _).symm.trans H; with_reducible exact H2_) | with_reducible exact H | (rw [hy147]; exact H) | exact H
                                      have Ny147 := Aside0.mk hy147
                                      clear hy147
                                      have H' := Aside0.mk H
                                      clear H
                                      have p143 : 0 ≤ (x70_4 : Int) := of_decide_eq_true (by first | (with_reducible assumption) | assumption)
                                      have q143 : x70_4 < (x3_5.length : Int) := of_decide_eq_true (by first | (with_reducible assumption) | assumption)
                                      obtain ⟨ad143, A143_0, c143_0, e143, hx143_0, hl143_0, hi143_0⟩ := at_L3 (Kd.S_reads' HO_3.out).2.2 x70_4 p143 q143
                                      cases e143
                                      obtain ⟨ce143, hce143, hMe143, hcc143⟩ := Kd.S_get HO_3.out [] x70_4 p143 (by first | exact q143 | exact of_decide_eq_true (by first | (with_reducible assumption) | assumption) | (have e_ := (Kd.S_reads' HO_3.out).1; omega))
                                      obtain ⟨ve143_0, rfl, ge143_0⟩ := hMe143
                                      have hv143_0 := hcc143 0 _ rfl
                                      rw [Nat.add_zero, show ((Kd.slice 26 k26)).sz = 1 from rfl, Nat.mul_one] at hv143_0
                                      replace hv143_0 := Option.some.inj (hv143_0.symm.trans hx143_0)
                                      rw [hv143_0] at ge143_0
                                      have HL143_0 := Aside0.mk (show Kd.R k26 26 _ _ _ _ (rd_L3 x3_5 x70_4) from ge143_0)
                                      clear hv143_0 ge143_0
                                      have HX143_0 := Aside0.mk hx143_0
                                      clear hcc143 hce143
                                      have HR143_0 := Aside0.mk hi143_0
                                      have HC143_0 := Aside0.mk hl143_0
                                      clear hi143_0 hl143_0
                                      replace p143 := eq_true p143
                                      replace q143 := eq_true q143
                                      obtain ⟨go43, co43, eo43, gb43, gl43, cl43, HG43⟩ := Kd.S_form HO_3.out (by have h_ : (x70_4 : Int) < ((x3_5.length : Int) : Int) := of_decide_eq_true (by first | (with_reducible assumption) | assumption); have h2_ : 0 ≤ (x70_4 : Int) := (of_decide_eq_true (by first | (with_reducible assumption) | assumption)); omega)
                                      (first | cases eo43 | (injection eo43 with ea_ en_ ec_; (first | subst ea_ | (injection ea_ with ea_; subst ea_)); subst ec_; clear en_))
                                      have GB43 := Aside0.mk gb43
                                      have GG43 := Aside0.mk HG43
                                      clear gb43 gl43 HG43
                                      (first | simp only [add_plain] at hx143_0 | skip)
                                      obtain ⟨oki43, ce43, hcl43, hM43, hcc43, _, _, hH43⟩ := Kd.S_elem HO_3.out [] (x70_4 : Int) (of_decide_eq_true (by first | (with_reducible assumption) | assumption)) (by have h_ : (x70_4 : Int) < ((x3_5.length : Int) : Int) := of_decide_eq_true (by first | (with_reducible assumption) | assumption); first | exact h_ | (have e_ := (Kd.S_reads' HO_3.out).1; omega) | simpa using h_)
                                      obtain ⟨ve43_0, rfl, ge43_0⟩ := hM43
                                      have hv43 := hcc43 0 _ rfl
                                      have hX43 := HX143_0.out
                                      (try simp only [add_plain] at hX43)
                                      (try simp only [Nat.add_zero] at hv43)
                                      (try rw [show ((Kd.slice 26 k26)).sz = 1 from rfl, Nat.mul_one] at hv43)
                                      replace hv43 := Option.some.inj (hv43.symm.trans hX43)
                                      subst hv43
                                      clear hX43 hcc43 hcl43
                                      have UU43 := Aside0.mk (show Kd.R k26 26 _ w.heap.size oki43 (.slice A143_0 (rd_L3 x3_5 x70_4).length c143_0) (rd_L3 x3_5 x70_4) from ge43_0)
                                      have HH43 := Aside0.mk hH43
                                      have HN43 := Aside0.mk (Kd.S_reads' HO_3.out).1
                                      clear hH43 ge43_0
                                      go_wp2_with (first | ((with_reducible refine gate_builtin (b := .append) (xs := #[.tmp 80, .tmp 84]) rfl ?_); (try (refine gate_guard (by rfl) ?_; dsimp only)); at_builtin; refine Kd.R_append k26 (w0 := w) w.heap.size rfl (.tmp 80) (.tmp 84) 22 26 (.agg #[(.int .i64 0), (.int .i64 0)]) 16 rfl Try.underlying22 info26 rfl (by decide) (by omega) (.slice A143_0 (rd_L3 x3_5 x70_4).length c143_0) (rd_L3 x3_5 x70_4) (⟨wrap64 ((-100) - x70_4), 0⟩ : S26) [.int .i64 (wrap64 ((-100) - x70_4)), .int .i64 0] (fun k_ => oki43 k_ ∨ ((fun _ => True)) k_ ∧ wr.heap.size ≤ k_) (fun _ => False) rfl rfl ?aP (fun _ hk => hk.elim) ?aF ?aO ?aB ?aS ?aL ?_; (case aP => exact k26_mkM _ _ _ (⟨wrap64 ((-100) - x70_4), 0⟩ : S26)); (case aB => exact (by repeat (first | (with_reducible first | exact HB.out | apply below_alloc | apply pw_below_drewN | apply below_drew1) | exact HB.out))); (case aF => exact (fun k_ hk => .inr ⟨trivial, hk⟩)); (case aO => exact (by (with_reducible repeat (first | apply Kd.R_alloc | apply Kd.R_drewN | apply Kd.R_drew)); exact Kd.R_mono UU43.out (fun _ hk => .inl hk))); (case aS => exact (below_size (by repeat (first | (with_reducible first | exact HB.out | apply below_alloc | apply pw_below_drewN | apply below_drew1) | exact HB.out)))); (case aL => have := LMc41.out; omega); intro v145 w44 ho hb hg hat; rw [← Ny144.out] at ho; have n0_ := Aside0.mk (Kd.S_over' (v := (.slice A143_0 (rd_L3 x3_5 x70_4).length c143_0)) (by (with_reducible repeat (first | apply Kd.S_alloc | apply Kd.S_drewN | apply Kd.S_drew)); exact HO_4.out) (Kd.R_typed HL143_0.out) (by decide) hg); have n1_ := Aside0.mk (hb); have n2_ := Aside0.mk (Kd.H_grown (Kd.H_widen (by repeat (first | exact HH43.out | refine Kd.H_alloc ?_ _ | refine Kd.H_drewN ?_ _ | refine Kd.H_drew ?_))) hg (fun k_ e_ => .inl (UU43.out.1 k_ e_))); have n3_ := Aside0.mk (ho); clear HO_4; clear HB; clear HH43; clear HO_3; clear UU43; clear HL143_0; have HO_4 := n0_; have HB := n1_; have HH43 := n2_; have HO146 := n3_; clear n0_ n1_ n2_ n3_; clear ho hb hg hat; have p42 : 0 ≤ (x70_4 : Int) := of_decide_eq_true (by first | (with_reducible assumption) | assumption); have q42 : (x70_4 : Int) < ((x3_5.length : Int) : Int) := of_decide_eq_true (by first | (with_reducible assumption) | assumption); replace p42 := eq_true p42; replace q42 := eq_true q42; obtain ⟨Ao47, co47, eo47⟩ := Kd.R_slice HO146.out; subst eo47; obtain ⟨_, _, hraw45, _, _, hcc45, _⟩ := Kd.H_raw HH43.out (of_decide_eq_true (by first | (with_reducible assumption) | assumption)) (by have h_ : (x70_4 : Int) < ((x3_5.length : Int) : Int) := of_decide_eq_true (by first | (with_reducible assumption) | assumption); first | exact h_ | (have e_ := (HN43.out); omega) | simpa using h_); obtain ⟨_, hfr45⟩ := Kd.H_at HH43.out (of_decide_eq_true (by first | (with_reducible assumption) | assumption)) (by have h_ : (x70_4 : Int) < ((x3_5.length : Int) : Int) := of_decide_eq_true (by first | (with_reducible assumption) | assumption); first | exact h_ | (have e_ := (HN43.out); omega) | simpa using h_); have hx45_0 := hcc45 0 _ rfl; have hf45_0 := hfr45 0; (try simp only [Nat.add_zero] at hx45_0 hf45_0); (try rw [show ((Kd.slice 26 k26)).sz = 1 from rfl, Nat.mul_one] at hx45_0); (try rw [show ((Kd.slice 26 k26)).sz = 1 from rfl, Nat.mul_one] at hf45_0); have HP45 := Kd.S_seg0 HH43.out (of_decide_eq_true (by first | (with_reducible assumption) | assumption)) (by have h_ : (x70_4 : Int) < ((x3_5.length : Int) : Int) := of_decide_eq_true (by first | (with_reducible assumption) | assumption); first | exact h_ | (have e_ := (HN43.out); omega) | simpa using h_) (seg := [.slice Ao47 y144.length co47]) (j := 0) (show 1 ≤ 1 from by decide) (x' := y144) (Kd.M_row HO146.out) (fun _ hk => hk); (try simp only [show ((Kd.slice 26 k26)).sz = 1 from rfl, Nat.mul_one, Nat.add_zero] at HP45); clear hcc45 hfr45) | ((with_reducible refine gate_store (t := 22) (p := 86) rfl ?_); (try (rw [drewN_self w44]; generalize hq_ : World.drewN w44 _ = w44; have n0_ := Aside0.mk (Kd.S_at hq_ HO_4.out); have n1_ := Aside0.mk (Kd.S_at hq_ HO_3.out); have n2_ := Aside0.mk (below_at hq_ HB.out); clear hq_ HO_4 HO_3 HB; have HO_4 := n0_; have HO_3 := n1_; have HB := n2_; clear n0_ n1_ n2_; (try (obtain ⟨Ao47, co47, eo47⟩ := Kd.R_slice HO146.out)); (try (subst eo47)); (try (obtain ⟨_, _, hraw45, _, _, hcc45, _⟩ := Kd.H_raw HH43.out (of_decide_eq_true (by first | (with_reducible assumption) | assumption)) (by have h_ : (x70_4 : Int) < ((x3_5.length : Int) : Int) := of_decide_eq_true (by first | (with_reducible assumption) | assumption); first | exact h_ | (have e_ := (HN43.out); omega) | simpa using h_))); (try (obtain ⟨_, hfr45⟩ := Kd.H_at HH43.out (of_decide_eq_true (by first | (with_reducible assumption) | assumption)) (by have h_ : (x70_4 : Int) < ((x3_5.length : Int) : Int) := of_decide_eq_true (by first | (with_reducible assumption) | assumption); first | exact h_ | (have e_ := (HN43.out); omega) | simpa using h_))); (try (have hx45_0 := hcc45 0 _ rfl)); (try (have hf45_0 := hfr45 0)); (try (try simp only [Nat.add_zero] at hx45_0 hf45_0)); (try (try rw [show ((Kd.slice 26 k26)).sz = 1 from rfl, Nat.mul_one] at hx45_0)); (try (try rw [show ((Kd.slice 26 k26)).sz = 1 from rfl, Nat.mul_one] at hf45_0)); (try (have HP45 := Kd.S_seg0 HH43.out (of_decide_eq_true (by first | (with_reducible assumption) | assumption)) (by have h_ : (x70_4 : Int) < ((x3_5.length : Int) : Int) := of_decide_eq_true (by first | (with_reducible assumption) | assumption); first | exact h_ | (have e_ := (HN43.out); omega) | simpa using h_) (seg := [.slice Ao47 y144.length co47]) (j := 0) (show 1 ≤ 1 from by decide) (x' := y144) (Kd.M_row HO146.out) (fun _ hk => hk))); (try (try simp only [show ((Kd.slice 26 k26)).sz = 1 from rfl, Nat.mul_one, Nat.add_zero] at HP45)); (try (clear hcc45 hfr45)))); refine store_event (t := 22) (p := 86) (v := ?vo_w46) (w1 := (w44.setCell ⟨go43, (x70_4 : Int).toNat, none⟩ (.slice Ao47 y144.length co47))) ?hg ?ho ?hn ?hr ?_; (case ho => rfl); (case hg => rfl); (case hn => rfl); (case hr => first | (go_simp; done) | (go_simp; rfl)); intro w46 hw; have hg : w44.grownBy w46 (some go43) := (by rw [hw]; exact HP45.2); have hp_ : Kd.S (Kd.slice 26 k26) 22 w46 w.heap.size (fun _ => True) (.slice (some ⟨go43, 0, none⟩) x3_5.length co25) y147 := (by rw [hw, Ny147.out]; exact HP45.1); clear HP45; have n0_ := Aside0.mk (Kd.S_over' (v := (.slice (some ⟨go43, 0, none⟩) x3_5.length co25)) (by (with_reducible repeat (first | apply Kd.S_alloc | apply Kd.S_drewN | apply Kd.S_drew)); exact HO_4.out) (Kd.R_typed hraw45) (by decide) hg); have n1_ := Aside0.mk ((by rw [hw]; exact below_set HB.out GB43.out : Below w.heap.size w w46)); have n2_ := Aside0.mk (hp_); clear HO_4; clear HB; clear HO146; clear HH43; have HO_4 := n0_; have HB := n1_; have HO_3 := n2_; clear n0_ n1_ n2_; clear hg hw hp_ hraw45))
                                      repeat (go_quiet (first | ((with_reducible refine gate_builtin (b := .append) (xs := #[.tmp 80, .tmp 84]) rfl ?_); (try (refine gate_guard (by rfl) ?_; dsimp only)); at_builtin; refine Kd.R_append k26 (w0 := w) w.heap.size rfl (.tmp 80) (.tmp 84) 22 26 (.agg #[(.int .i64 0), (.int .i64 0)]) 16 rfl Try.underlying22 info26 rfl (by decide) (by omega) (.slice A143_0 (rd_L3 x3_5 x70_4).length c143_0) (rd_L3 x3_5 x70_4) (⟨wrap64 ((-100) - x70_4), 0⟩ : S26) [.int .i64 (wrap64 ((-100) - x70_4)), .int .i64 0] (fun k_ => oki43 k_ ∨ ((fun _ => True)) k_ ∧ wr.heap.size ≤ k_) (fun _ => False) rfl rfl ?aP (fun _ hk => hk.elim) ?aF ?aO ?aB ?aS ?aL ?_; (case aP => exact k26_mkM _ _ _ (⟨wrap64 ((-100) - x70_4), 0⟩ : S26)); (case aB => exact (by repeat (first | (with_reducible first | exact HB.out | apply below_alloc | apply pw_below_drewN | apply below_drew1) | exact HB.out))); (case aF => exact (fun k_ hk => .inr ⟨trivial, hk⟩)); (case aO => exact (by (with_reducible repeat (first | apply Kd.R_alloc | apply Kd.R_drewN | apply Kd.R_drew)); exact Kd.R_mono UU43.out (fun _ hk => .inl hk))); (case aS => exact (below_size (by repeat (first | (with_reducible first | exact HB.out | apply below_alloc | apply pw_below_drewN | apply below_drew1) | exact HB.out)))); (case aL => have := LMc41.out; omega); intro v145 w44 ho hb hg hat; rw [← Ny144.out] at ho; have n0_ := Aside0.mk (Kd.S_over' (v := (.slice A143_0 (rd_L3 x3_5 x70_4).length c143_0)) (by (with_reducible repeat (first | apply Kd.S_alloc | apply Kd.S_drewN | apply Kd.S_drew)); exact HO_4.out) (Kd.R_typed HL143_0.out) (by decide) hg); have n1_ := Aside0.mk (hb); have n2_ := Aside0.mk (Kd.H_grown (Kd.H_widen (by repeat (first | exact HH43.out | refine Kd.H_alloc ?_ _ | refine Kd.H_drewN ?_ _ | refine Kd.H_drew ?_))) hg (fun k_ e_ => .inl (UU43.out.1 k_ e_))); have n3_ := Aside0.mk (ho); clear HO_4; clear HB; clear HH43; clear HO_3; clear UU43; clear HL143_0; have HO_4 := n0_; have HB := n1_; have HH43 := n2_; have HO146 := n3_; clear n0_ n1_ n2_ n3_; clear ho hb hg hat; have p42 : 0 ≤ (x70_4 : Int) := of_decide_eq_true (by first | (with_reducible assumption) | assumption); have q42 : (x70_4 : Int) < ((x3_5.length : Int) : Int) := of_decide_eq_true (by first | (with_reducible assumption) | assumption); replace p42 := eq_true p42; replace q42 := eq_true q42; obtain ⟨Ao47, co47, eo47⟩ := Kd.R_slice HO146.out; subst eo47; obtain ⟨_, _, hraw45, _, _, hcc45, _⟩ := Kd.H_raw HH43.out (of_decide_eq_true (by first | (with_reducible assumption) | assumption)) (by have h_ : (x70_4 : Int) < ((x3_5.length : Int) : Int) := of_decide_eq_true (by first | (with_reducible assumption) | assumption); first | exact h_ | (have e_ := (HN43.out); omega) | simpa using h_); obtain ⟨_, hfr45⟩ := Kd.H_at HH43.out (of_decide_eq_true (by first | (with_reducible assumption) | assumption)) (by have h_ : (x70_4 : Int) < ((x3_5.length : Int) : Int) := of_decide_eq_true (by first | (with_reducible assumption) | assumption); first | exact h_ | (have e_ := (HN43.out); omega) | simpa using h_); have hx45_0 := hcc45 0 _ rfl; have hf45_0 := hfr45 0; (try simp only [Nat.add_zero] at hx45_0 hf45_0); (try rw [show ((Kd.slice 26 k26)).sz = 1 from rfl, Nat.mul_one] at hx45_0); (try rw [show ((Kd.slice 26 k26)).sz = 1 from rfl, Nat.mul_one] at hf45_0); have HP45 := Kd.S_seg0 HH43.out (of_decide_eq_true (by first | (with_reducible assumption) | assumption)) (by have h_ : (x70_4 : Int) < ((x3_5.length : Int) : Int) := of_decide_eq_true (by first | (with_reducible assumption) | assumption); first | exact h_ | (have e_ := (HN43.out); omega) | simpa using h_) (seg := [.slice Ao47 y144.length co47]) (j := 0) (show 1 ≤ 1 from by decide) (x' := y144) (Kd.M_row HO146.out) (fun _ hk => hk); (try simp only [show ((Kd.slice 26 k26)).sz = 1 from rfl, Nat.mul_one, Nat.add_zero] at HP45); clear hcc45 hfr45) | ((with_reducible refine gate_store (t := 22) (p := 86) rfl ?_); (try (rw [drewN_self w44]; generalize hq_ : World.drewN w44 _ = w44; have n0_ := Aside0.mk (Kd.S_at hq_ HO_4.out); have n1_ := Aside0.mk (Kd.S_at hq_ HO_3.out); have n2_ := Aside0.mk (below_at hq_ HB.out); clear hq_ HO_4 HO_3 HB; have HO_4 := n0_; have HO_3 := n1_; have HB := n2_; clear n0_ n1_ n2_; (try (obtain ⟨Ao47, co47, eo47⟩ := Kd.R_slice HO146.out)); (try (subst eo47)); (try (obtain ⟨_, _, hraw45, _, _, hcc45, _⟩ := Kd.H_raw HH43.out (of_decide_eq_true (by first | (with_reducible assumption) | assumption)) (by have h_ : (x70_4 : Int) < ((x3_5.length : Int) : Int) := of_decide_eq_true (by first | (with_reducible assumption) | assumption); first | exact h_ | (have e_ := (HN43.out); omega) | simpa using h_))); (try (obtain ⟨_, hfr45⟩ := Kd.H_at HH43.out (of_decide_eq_true (by first | (with_reducible assumption) | assumption)) (by have h_ : (x70_4 : Int) < ((x3_5.length : Int) : Int) := of_decide_eq_true (by first | (with_reducible assumption) | assumption); first | exact h_ | (have e_ := (HN43.out); omega) | simpa using h_))); (try (have hx45_0 := hcc45 0 _ rfl)); (try (have hf45_0 := hfr45 0)); (try (try simp only [Nat.add_zero] at hx45_0 hf45_0)); (try (try rw [show ((Kd.slice 26 k26)).sz = 1 from rfl, Nat.mul_one] at hx45_0)); (try (try rw [show ((Kd.slice 26 k26)).sz = 1 from rfl, Nat.mul_one] at hf45_0)); (try (have HP45 := Kd.S_seg0 HH43.out (of_decide_eq_true (by first | (with_reducible assumption) | assumption)) (by have h_ : (x70_4 : Int) < ((x3_5.length : Int) : Int) := of_decide_eq_true (by first | (with_reducible assumption) | assumption); first | exact h_ | (have e_ := (HN43.out); omega) | simpa using h_) (seg := [.slice Ao47 y144.length co47]) (j := 0) (show 1 ≤ 1 from by decide) (x' := y144) (Kd.M_row HO146.out) (fun _ hk => hk))); (try (try simp only [show ((Kd.slice 26 k26)).sz = 1 from rfl, Nat.mul_one, Nat.add_zero] at HP45)); (try (clear hcc45 hfr45)))); refine store_event (t := 22) (p := 86) (v := ?vo_w46) (w1 := (w44.setCell ⟨go43, (x70_4 : Int).toNat, none⟩ (.slice Ao47 y144.length co47))) ?hg ?ho ?hn ?hr ?_; (case ho => rfl); (case hg => rfl); (case hn => rfl); (case hr => first | (go_simp; done) | (go_simp; rfl)); intro w46 hw; have hg : w44.grownBy w46 (some go43) := (by rw [hw]; exact HP45.2); have hp_ : Kd.S (Kd.slice 26 k26) 22 w46 w.heap.size (fun _ => True) (.slice (some ⟨go43, 0, none⟩) x3_5.length co25) y147 := (by rw [hw, Ny147.out]; exact HP45.1); clear HP45; have n0_ := Aside0.mk (Kd.S_over' (v := (.slice (some ⟨go43, 0, none⟩) x3_5.length co25)) (by (with_reducible repeat (first | apply Kd.S_alloc | apply Kd.S_drewN | apply Kd.S_drew)); exact HO_4.out) (Kd.R_typed hraw45) (by decide) hg); have n1_ := Aside0.mk ((by rw [hw]; exact below_set HB.out GB43.out : Below w.heap.size w w46)); have n2_ := Aside0.mk (hp_); clear HO_4; clear HB; clear HO146; clear HH43; have HO_4 := n0_; have HB := n1_; have HO_3 := n2_; clear n0_ n1_ n2_; clear hg hw hp_ hraw45)); try go_wp2_with (first | ((with_reducible refine gate_builtin (b := .append) (xs := #[.tmp 80, .tmp 84]) rfl ?_); (try (refine gate_guard (by rfl) ?_; dsimp only)); at_builtin; refine Kd.R_append k26 (w0 := w) w.heap.size rfl (.tmp 80) (.tmp 84) 22 26 (.agg #[(.int .i64 0), (.int .i64 0)]) 16 rfl Try.underlying22 info26 rfl (by decide) (by omega) (.slice A143_0 (rd_L3 x3_5 x70_4).length c143_0) (rd_L3 x3_5 x70_4) (⟨wrap64 ((-100) - x70_4), 0⟩ : S26) [.int .i64 (wrap64 ((-100) - x70_4)), .int .i64 0] (fun k_ => oki43 k_ ∨ ((fun _ => True)) k_ ∧ wr.heap.size ≤ k_) (fun _ => False) rfl rfl ?aP (fun _ hk => hk.elim) ?aF ?aO ?aB ?aS ?aL ?_; (case aP => exact k26_mkM _ _ _ (⟨wrap64 ((-100) - x70_4), 0⟩ : S26)); (case aB => exact (by repeat (first | (with_reducible first | exact HB.out | apply below_alloc | apply pw_below_drewN | apply below_drew1) | exact HB.out))); (case aF => exact (fun k_ hk => .inr ⟨trivial, hk⟩)); (case aO => exact (by (with_reducible repeat (first | apply Kd.R_alloc | apply Kd.R_drewN | apply Kd.R_drew)); exact Kd.R_mono UU43.out (fun _ hk => .inl hk))); (case aS => exact (below_size (by repeat (first | (with_reducible first | exact HB.out | apply below_alloc | apply pw_below_drewN | apply below_drew1) | exact HB.out)))); (case aL => have := LMc41.out; omega); intro v145 w44 ho hb hg hat; rw [← Ny144.out] at ho; have n0_ := Aside0.mk (Kd.S_over' (v := (.slice A143_0 (rd_L3 x3_5 x70_4).length c143_0)) (by (with_reducible repeat (first | apply Kd.S_alloc | apply Kd.S_drewN | apply Kd.S_drew)); exact HO_4.out) (Kd.R_typed HL143_0.out) (by decide) hg); have n1_ := Aside0.mk (hb); have n2_ := Aside0.mk (Kd.H_grown (Kd.H_widen (by repeat (first | exact HH43.out | refine Kd.H_alloc ?_ _ | refine Kd.H_drewN ?_ _ | refine Kd.H_drew ?_))) hg (fun k_ e_ => .inl (UU43.out.1 k_ e_))); have n3_ := Aside0.mk (ho); clear HO_4; clear HB; clear HH43; clear HO_3; clear UU43; clear HL143_0; have HO_4 := n0_; have HB := n1_; have HH43 := n2_; have HO146 := n3_; clear n0_ n1_ n2_ n3_; clear ho hb hg hat; have p42 : 0 ≤ (x70_4 : Int) := of_decide_eq_true (by first | (with_reducible assumption) | assumption); have q42 : (x70_4 : Int) < ((x3_5.length : Int) : Int) := of_decide_eq_true (by first | (with_reducible assumption) | assumption); replace p42 := eq_true p42; replace q42 := eq_true q42; obtain ⟨Ao47, co47, eo47⟩ := Kd.R_slice HO146.out; subst eo47; obtain ⟨_, _, hraw45, _, _, hcc45, _⟩ := Kd.H_raw HH43.out (of_decide_eq_true (by first | (with_reducible assumption) | assumption)) (by have h_ : (x70_4 : Int) < ((x3_5.length : Int) : Int) := of_decide_eq_true (by first | (with_reducible assumption) | assumption); first | exact h_ | (have e_ := (HN43.out); omega) | simpa using h_); obtain ⟨_, hfr45⟩ := Kd.H_at HH43.out (of_decide_eq_true (by first | (with_reducible assumption) | assumption)) (by have h_ : (x70_4 : Int) < ((x3_5.length : Int) : Int) := of_decide_eq_true (by first | (with_reducible assumption) | assumption); first | exact h_ | (have e_ := (HN43.out); omega) | simpa using h_); have hx45_0 := hcc45 0 _ rfl; have hf45_0 := hfr45 0; (try simp only [Nat.add_zero] at hx45_0 hf45_0); (try rw [show ((Kd.slice 26 k26)).sz = 1 from rfl, Nat.mul_one] at hx45_0); (try rw [show ((Kd.slice 26 k26)).sz = 1 from rfl, Nat.mul_one] at hf45_0); have HP45 := Kd.S_seg0 HH43.out (of_decide_eq_true (by first | (with_reducible assumption) | assumption)) (by have h_ : (x70_4 : Int) < ((x3_5.length : Int) : Int) := of_decide_eq_true (by first | (with_reducible assumption) | assumption); first | exact h_ | (have e_ := (HN43.out); omega) | simpa using h_) (seg := [.slice Ao47 y144.length co47]) (j := 0) (show 1 ≤ 1 from by decide) (x' := y144) (Kd.M_row HO146.out) (fun _ hk => hk); (try simp only [show ((Kd.slice 26 k26)).sz = 1 from rfl, Nat.mul_one, Nat.add_zero] at HP45); clear hcc45 hfr45) | ((with_reducible refine gate_store (t := 22) (p := 86) rfl ?_); (try (rw [drewN_self w44]; generalize hq_ : World.drewN w44 _ = w44; have n0_ := Aside0.mk (Kd.S_at hq_ HO_4.out); have n1_ := Aside0.mk (Kd.S_at hq_ HO_3.out); have n2_ := Aside0.mk (below_at hq_ HB.out); clear hq_ HO_4 HO_3 HB; have HO_4 := n0_; have HO_3 := n1_; have HB := n2_; clear n0_ n1_ n2_; (try (obtain ⟨Ao47, co47, eo47⟩ := Kd.R_slice HO146.out)); (try (subst eo47)); (try (obtain ⟨_, _, hraw45, _, _, hcc45, _⟩ := Kd.H_raw HH43.out (of_decide_eq_true (by first | (with_reducible assumption) | assumption)) (by have h_ : (x70_4 : Int) < ((x3_5.length : Int) : Int) := of_decide_eq_true (by first | (with_reducible assumption) | assumption); first | exact h_ | (have e_ := (HN43.out); omega) | simpa using h_))); (try (obtain ⟨_, hfr45⟩ := Kd.H_at HH43.out (of_decide_eq_true (by first | (with_reducible assumption) | assumption)) (by have h_ : (x70_4 : Int) < ((x3_5.length : Int) : Int) := of_decide_eq_true (by first | (with_reducible assumption) | assumption); first | exact h_ | (have e_ := (HN43.out); omega) | simpa using h_))); (try (have hx45_0 := hcc45 0 _ rfl)); (try (have hf45_0 := hfr45 0)); (try (try simp only [Nat.add_zero] at hx45_0 hf45_0)); (try (try rw [show ((Kd.slice 26 k26)).sz = 1 from rfl, Nat.mul_one] at hx45_0)); (try (try rw [show ((Kd.slice 26 k26)).sz = 1 from rfl, Nat.mul_one] at hf45_0)); (try (have HP45 := Kd.S_seg0 HH43.out (of_decide_eq_true (by first | (with_reducible assumption) | assumption)) (by have h_ : (x70_4 : Int) < ((x3_5.length : Int) : Int) := of_decide_eq_true (by first | (with_reducible assumption) | assumption); first | exact h_ | (have e_ := (HN43.out); omega) | simpa using h_) (seg := [.slice Ao47 y144.length co47]) (j := 0) (show 1 ≤ 1 from by decide) (x' := y144) (Kd.M_row HO146.out) (fun _ hk => hk))); (try (try simp only [show ((Kd.slice 26 k26)).sz = 1 from rfl, Nat.mul_one, Nat.add_zero] at HP45)); (try (clear hcc45 hfr45)))); refine store_event (t := 22) (p := 86) (v := ?vo_w46) (w1 := (w44.setCell ⟨go43, (x70_4 : Int).toNat, none⟩ (.slice Ao47 y144.length co47))) ?hg ?ho ?hn ?hr ?_; (case ho => rfl); (case hg => rfl); (case hn => rfl); (case hr => first | (go_simp; done) | (go_simp; rfl)); intro w46 hw; have hg : w44.grownBy w46 (some go43) := (by rw [hw]; exact HP45.2); have hp_ : Kd.S (Kd.slice 26 k26) 22 w46 w.heap.size (fun _ => True) (.slice (some ⟨go43, 0, none⟩) x3_5.length co25) y147 := (by rw [hw, Ny147.out]; exact HP45.1); clear HP45; have n0_ := Aside0.mk (Kd.S_over' (v := (.slice (some ⟨go43, 0, none⟩) x3_5.length co25)) (by (with_reducible repeat (first | apply Kd.S_alloc | apply Kd.S_drewN | apply Kd.S_drew)); exact HO_4.out) (Kd.R_typed hraw45) (by decide) hg); have n1_ := Aside0.mk ((by rw [hw]; exact below_set HB.out GB43.out : Below w.heap.size w w46)); have n2_ := Aside0.mk (hp_); clear HO_4; clear HB; clear HO146; clear HH43; have HO_4 := n0_; have HB := n1_; have HO_3 := n2_; clear n0_ n1_ n2_; clear hg hw hp_ hraw45)))
                                      (try simp only [← hl3_5])
                                      go_roundg k5
                                      case measure => have := HJ3.out; have := HK2.out; have := HK3.out; have := HK4.out; have := HK5.out; omega
                                      case rel => exact ⟨(y147), (wrap64 (x73_5 + 1)), (by first | rfl | (simp; done) | (simp [*]; done)), H', ⟨by have := HJ3.out; have := HK2.out; have := HK3.out; have := HK4.out; have := HK5.out; omega⟩, ⟨by (try simp only [hl3_3]); (try simp only [hl3_4]); (try simp only [hl3_5]); (with_reducible repeat (first | apply Kd.S_alloc | apply Kd.S_drewN | apply Kd.S_drew)); exact HO_3.out⟩, ⟨by (try simp only [hl3_3]); (try simp only [hl3_4]); (try simp only [hl3_5]); (with_reducible repeat (first | apply Kd.S_alloc | apply Kd.S_drewN | apply Kd.S_drew)); exact HO_4.out⟩, ⟨by repeat (first | (with_reducible first | exact HB.out | apply below_alloc | apply pw_below_drewN | apply below_drew1) | exact HB.out)⟩⟩
                                    · rw [if_neg c41] at H
                                      exact absurd H (by simp)
                                  · rw [if_neg c40] at H
                                    exact absurd H (by simp)
                                · rw [if_neg c39] at H
                                  exact absurd H (by simp)
                              · rw [if_neg c38] at H
                                have c38b0 : decide (x73_5 < 40) = false := decide_eq_false c38
                                clear c38
                                have H' := Aside0.mk H
                                clear H
                                go_wp2
                                repeat (go_quiet (fail); try go_wp2)
                                (try simp only [← hl3_4, ← hl3_5])
                                go_roundg k5
                                case measure => have := HJ3.out; have := HK2.out; have := HK3.out; have := HK4.out; have := HK5.out; omega
                                case rel => exact ⟨(x3_5), (wrap64 (x70_4 + 1)), (by first | rfl | (simp; done) | (simp [*]; done)), H', ⟨by have := HJ3.out; have := HK2.out; have := HK3.out; have := HK4.out; have := HK5.out; omega⟩, ⟨by (try simp only [hl3_3]); (try simp only [hl3_4]); (try simp only [hl3_5]); (with_reducible repeat (first | apply Kd.S_alloc | apply Kd.S_drewN | apply Kd.S_drew)); exact HO_3.out⟩, ⟨by (try simp only [hl3_3]); (try simp only [hl3_4]); (try simp only [hl3_5]); (with_reducible repeat (first | apply Kd.S_alloc | apply Kd.S_drewN | apply Kd.S_drew)); exact HO_4.out⟩, ⟨by repeat (first | (with_reducible first | exact HB.out | apply below_alloc | apply pw_below_drewN | apply below_drew1) | exact HB.out)⟩⟩
                        · rw [if_neg c37] at H
                          have c37b0 : decide (x70_4 < (x3_3.length : Int)) = false := decide_eq_false c37
                          (try rw [hl3_3] at c37b0)
                          (try rw [hl3_4] at c37b0)
                          (try rw [hl3_5] at c37b0)
                          clear c37
                          have H' := Aside0.mk H
                          clear H
                          go_wp2
                          repeat (go_quiet (fail); try go_wp2)
                          go_loopg [91] k4 (fun kq v91 w' => ∃ (x91_5 : Int), v91 = .int .i64 x91_5 ∧ Aside0 (barrowlaw26_SettleRounds.l5 kq a0 x3_4 t129 (x3_4.length : Int) x91_5 = some r) ∧ Aside0 (kq ≤ k4) ∧ Aside0 (Kd.S (Kd.slice 26 k26) 22 w' w.heap.size (fun _ => True) (.slice Ao25 x3_4.length co25) x3_4) ∧ Aside0 (Kd.S (Kd.slice 60 k60) 34 w' w.heap.size (fun _ => True) (.slice Ao16 t129.length co16) t129) ∧ Aside0 (Below w.heap.size w w'))
                          case atStart => exact ⟨(0), (by first | rfl | (simp; done) | (simp [*]; done)), H', ⟨Nat.le_refl _⟩, ⟨by (try simp only [hl3_3]); (try simp only [hl3_4]); (with_reducible repeat (first | apply Kd.S_alloc | apply Kd.S_drewN | apply Kd.S_drew)); exact HO_3.out⟩, ⟨by (try simp only [hl3_3]); (try simp only [hl3_4]); (with_reducible repeat (first | apply Kd.S_alloc | apply Kd.S_drewN | apply Kd.S_drew)); exact HO_4.out⟩, ⟨by repeat (first | (with_reducible first | exact HB.out | apply below_alloc | apply pw_below_drewN | apply below_drew1) | exact HB.out)⟩⟩
                          case round =>
                            clear H'
                            try clear c1
                            try clear p1
                            try clear q1
                            try clear hx1
                            try clear c2
                            try clear p2
                            try clear c3
                            try clear p3
                            try clear q3
                            try clear hx3
                            try clear hf3
                            try clear c4
                            try clear p4
                            try clear q4
                            try clear hx4
                            try clear hf4
                            try clear c5
                            try clear p6
                            try clear c8
                            try clear c8b0
                            try clear c8b1
                            try clear c13
                            try clear p13
                            try clear q13
                            try clear hx13
                            try clear c14
                            try clear p14
                            try clear q14
                            try clear hx14
                            try clear c15
                            try clear c17
                            try clear c17b0
                            try clear c18
                            try clear c18b0
                            try clear c19
                            try clear c19b0
                            try clear c20
                            try clear c20b0
                            try clear c22
                            try clear c26
                            try clear c26b0
                            try clear c27
                            try clear c27b0
                            try clear c28
                            try clear c28b0
                            try clear c29
                            try clear c29b0
                            try clear c30
                            try clear c30b0
                            try clear c31
                            try clear c31b0
                            try clear c32
                            try clear c32b0
                            try clear c33
                            try clear c33b0
                            try clear c34
                            try clear p34
                            try clear q34
                            try clear hx34
                            try clear hf34
                            try clear c35
                            try clear q35
                            try clear c37
                            try clear c37b0
                            try clear c38
                            try clear c38b0
                            try clear c39
                            try clear c39b0
                            try clear c40
                            try clear c40b0
                            try clear c41
                            try clear p42
                            try clear q42
                            try clear c43
                            try clear c45
                            try clear hx45
                            try clear hf45
                            try clear hx135_0
                            try clear hx136_0
                            try clear hx138_0
                            try clear hx139_0
                            try clear hx143_0
                            try clear hx34_0
                            try clear hx34_1
                            try clear hx45_0
                            try clear p1
                            try clear p13
                            try clear p135
                            try clear p136
                            try clear p138
                            try clear p139
                            try clear p143
                            try clear p2
                            try clear p3
                            try clear p34
                            try clear p42
                            try clear p6
                            try clear q1
                            try clear q13
                            try clear q135
                            try clear q136
                            try clear q138
                            try clear q139
                            try clear q143
                            try clear q3
                            try clear q34
                            try clear q35
                            try clear q42
                            obtain ⟨x91_5, rfl, HA, HK5, HO_3, HO_4, HB⟩ := hrel
                            cases gk with
                            | zero => exact absurd HA.out (by simp [barrowlaw26_SettleRounds.l5])
                            | succ k5 =>
                              have H := HA.out
                              clear HA
                              simp only [barrowlaw26_SettleRounds.l5] at H
                              by_cases c48 : x91_5 < (x3_4.length : Int)
                              · rw [if_pos c48] at H
                                have c48b0 : decide (x91_5 < (x3_4.length : Int)) = true := decide_eq_true c48
                                (try rw [hl3_3] at c48b0)
                                (try rw [hl3_4] at c48b0)
                                (try rw [hl3_5] at c48b0)
                                clear c48
                                by_cases c49 : 0 ≤ x91_5
                                · rw [if_pos c49] at H
                                  have c49b0 : decide (0 ≤ x91_5) = true := decide_eq_true c49
                                  clear c49
                                  by_cases c50 : x91_5 < (t129.length : Int)
                                  · rw [if_pos c50] at H
                                    have c50b0 : decide (x91_5 < (t129.length : Int)) = true := decide_eq_true c50
                                    (try rw [hl3_3] at c50b0)
                                    (try rw [hl3_4] at c50b0)
                                    (try rw [hl3_5] at c50b0)
                                    clear c50
                                    have H' := Aside0.mk H
                                    clear H
                                    have p148 : 0 ≤ (x91_5 : Int) := of_decide_eq_true (by first | (with_reducible assumption) | assumption)
                                    have q148 : x91_5 < (t129.length : Int) := of_decide_eq_true (by first | (with_reducible assumption) | assumption)
                                    obtain ⟨ad148, A148_0, c148_0, e148, hx148_0, hl148_0, hi148_0⟩ := at_L4 (Kd.S_reads' HO_4.out).2.2 x91_5 p148 q148
                                    cases e148
                                    obtain ⟨ce148, hce148, hMe148, hcc148⟩ := Kd.S_get HO_4.out [] x91_5 p148 (by first | exact q148 | exact of_decide_eq_true (by first | (with_reducible assumption) | assumption) | (have e_ := (Kd.S_reads' HO_4.out).1; omega))
                                    obtain ⟨ve148_0, rfl, ge148_0⟩ := hMe148
                                    have hv148_0 := hcc148 0 _ rfl
                                    rw [Nat.add_zero, show ((Kd.slice 60 k60)).sz = 1 from rfl, Nat.mul_one] at hv148_0
                                    replace hv148_0 := Option.some.inj (hv148_0.symm.trans hx148_0)
                                    rw [hv148_0] at ge148_0
                                    have HL148_0 := Aside0.mk (show Kd.R k60 60 _ _ _ _ (rd_L4 t129 x91_5) from ge148_0)
                                    clear hv148_0 ge148_0
                                    have HX148_0 := Aside0.mk hx148_0
                                    clear hcc148 hce148
                                    have HR148_0 := Aside0.mk hi148_0
                                    have HC148_0 := Aside0.mk hl148_0
                                    clear hi148_0 hl148_0
                                    replace p148 := eq_true p148
                                    replace q148 := eq_true q148
                                    go_wp2
                                    repeat (go_quiet (fail); try go_wp2)
                                    go_loopg [99] k5 (fun kq v99 w' => ∃ (x99_6 : Int), v99 = .int .i64 x99_6 ∧ Aside0 (barrowlaw26_SettleRounds.l6 kq a0 x3_4 t129 x91_5 (x3_4.length : Int) x91_5 ((rd_L4 t129 x91_5).length : Int) x99_6 = some r) ∧ Aside0 (kq ≤ k5) ∧ Aside0 (Kd.S (Kd.slice 26 k26) 22 w' w.heap.size (fun _ => True) (.slice Ao25 x3_4.length co25) x3_4) ∧ Aside0 (Kd.S (Kd.slice 60 k60) 34 w' w.heap.size (fun _ => True) (.slice (some ad148) t129.length co16) t129) ∧ Aside0 (Kd.C k60 w' A148_0 (rd_L4 t129 x91_5).length (rd_L4 t129 x91_5)) ∧ Aside0 (Below w.heap.size w w'))
                                    case atStart => exact ⟨(0), (by first | rfl | (simp; done) | (simp [*]; done)), H', ⟨Nat.le_refl _⟩, ⟨by (try simp only [hl3_3]); (try simp only [hl3_4]); (with_reducible repeat (first | apply Kd.S_alloc | apply Kd.S_drewN | apply Kd.S_drew)); exact HO_3.out⟩, ⟨by (try simp only [hl3_3]); (try simp only [hl3_4]); (with_reducible repeat (first | apply Kd.S_alloc | apply Kd.S_drewN | apply Kd.S_drew)); exact HO_4.out⟩, ⟨by repeat (first | (with_reducible exact HR148_0.out) | (with_reducible refine Kd.C_alloc ?_ _) | (with_reducible refine Kd.C_drewN ?_ _) | (with_reducible refine Kd.C_drew ?_) | exact HR148_0.out)⟩, ⟨by repeat (first | (with_reducible first | exact HB.out | apply below_alloc | apply pw_below_drewN | apply below_drew1) | exact HB.out)⟩⟩
                                    case round =>
                                      clear H'
                                      try clear c1
                                      try clear p1
                                      try clear q1
                                      try clear hx1
                                      try clear c2
                                      try clear p2
                                      try clear c3
                                      try clear p3
                                      try clear q3
                                      try clear hx3
                                      try clear hf3
                                      try clear c4
                                      try clear p4
                                      try clear q4
                                      try clear hx4
                                      try clear hf4
                                      try clear c5
                                      try clear p6
                                      try clear c8
                                      try clear c8b0
                                      try clear c8b1
                                      try clear c13
                                      try clear p13
                                      try clear q13
                                      try clear hx13
                                      try clear c14
                                      try clear p14
                                      try clear q14
                                      try clear hx14
                                      try clear c15
                                      try clear c17
                                      try clear c17b0
                                      try clear c18
                                      try clear c18b0
                                      try clear c19
                                      try clear c19b0
                                      try clear c20
                                      try clear c20b0
                                      try clear c22
                                      try clear c26
                                      try clear c26b0
                                      try clear c27
                                      try clear c27b0
                                      try clear c28
                                      try clear c28b0
                                      try clear c29
                                      try clear c29b0
                                      try clear c30
                                      try clear c30b0
                                      try clear c31
                                      try clear c31b0
                                      try clear c32
                                      try clear c32b0
                                      try clear c33
                                      try clear c33b0
                                      try clear c34
                                      try clear p34
                                      try clear q34
                                      try clear hx34
                                      try clear hf34
                                      try clear c35
                                      try clear q35
                                      try clear c37
                                      try clear c37b0
                                      try clear c38
                                      try clear c38b0
                                      try clear c39
                                      try clear c39b0
                                      try clear c40
                                      try clear c40b0
                                      try clear c41
                                      try clear p42
                                      try clear q42
                                      try clear c43
                                      try clear c45
                                      try clear hx45
                                      try clear hf45
                                      try clear c48
                                      try clear c48b0
                                      try clear c49
                                      try clear c49b0
                                      try clear c50
                                      try clear c50b0
                                      try clear hx135_0
                                      try clear hx136_0
                                      try clear hx138_0
                                      try clear hx139_0
                                      try clear hx143_0
                                      try clear hx148_0
                                      try clear hx34_0
                                      try clear hx34_1
                                      try clear hx45_0
                                      try clear p1
                                      try clear p13
                                      try clear p135
                                      try clear p136
                                      try clear p138
                                      try clear p139
                                      try clear p14
                                      try clear p143
                                      try clear p148
                                      try clear p2
                                      try clear p3
                                      try clear p34
                                      try clear p4
                                      try clear p42
                                      try clear p6
                                      try clear q1
                                      try clear q13
                                      try clear q135
                                      try clear q136
                                      try clear q138
                                      try clear q139
                                      try clear q14
                                      try clear q143
                                      try clear q148
                                      try clear q3
                                      try clear q34
                                      try clear q35
                                      try clear q4
                                      try clear q42
                                      obtain ⟨x99_6, rfl, HA, HK6, HO_3, HO_4, HR148_0, HB⟩ := hrel
                                      cases gk with
                                      | zero => exact absurd HA.out (by simp [barrowlaw26_SettleRounds.l6])
                                      | succ k6 =>
                                        have H := HA.out
                                        clear HA
                                        simp only [barrowlaw26_SettleRounds.l6] at H
                                        by_cases c51 : x99_6 < ((rd_L4 t129 x91_5).length : Int)
                                        · rw [if_pos c51] at H
                                          have c51b0 : decide (x99_6 < ((rd_L4 t129 x91_5).length : Int)) = true := decide_eq_true c51
                                          (try rw [hl3_3] at c51b0)
                                          (try rw [hl3_4] at c51b0)
                                          (try rw [hl3_5] at c51b0)
                                          clear c51
                                          by_cases c52 : 0 ≤ x91_5
                                          · rw [if_pos c52] at H
                                            have c52b0 : decide (0 ≤ x91_5) = true := decide_eq_true c52
                                            clear c52
                                            by_cases c53 : x91_5 < (x3_4.length : Int)
                                            · rw [if_pos c53] at H
                                              have c53b0 : decide (x91_5 < (x3_4.length : Int)) = true := decide_eq_true c53
                                              (try rw [hl3_3] at c53b0)
                                              (try rw [hl3_4] at c53b0)
                                              (try rw [hl3_5] at c53b0)
                                              clear c53
                                              by_cases c54 : 0 ≤ x99_6
                                              · rw [if_pos c54] at H
                                                have c54b0 : decide (0 ≤ x99_6) = true := decide_eq_true c54
                                                clear c54
                                                by_cases c55 : x99_6 < ((rd_L3 x3_4 x91_5).length : Int)
                                                · rw [if_pos c55] at H
                                                  have c55b0 : decide (x99_6 < ((rd_L3 x3_4 x91_5).length : Int)) = true := decide_eq_true c55
                                                  (try rw [hl3_3] at c55b0)
                                                  (try rw [hl3_4] at c55b0)
                                                  (try rw [hl3_5] at c55b0)
                                                  clear c55
                                                  by_cases c56 : (!(((rd_T26 (rd_L3 x3_4 x91_5) x99_6).f0) == (wrap64 ((-1) - x91_5))) || (!(((rd_T26 (rd_L3 x3_4 x91_5) x99_6).f1) == x99_6))) = true
                                                  · rw [if_pos c56] at H
                                                    have c56b0 : (!(((rd_T26 (rd_L3 x3_4 x91_5) x99_6).f0) == (wrap64 ((-1) - x91_5))) || (!(((rd_T26 (rd_L3 x3_4 x91_5) x99_6).f1) == x99_6))) = true := c56
                                                    clear c56
                                                    obtain rfl := Option.some.inj H
                                                    have p149 : 0 ≤ (x91_5 : Int) := of_decide_eq_true (by first | (with_reducible assumption) | assumption)
                                                    have q149 : x91_5 < (x3_4.length : Int) := of_decide_eq_true (by first | (with_reducible assumption) | assumption)
                                                    obtain ⟨ad149, A149_0, c149_0, e149, hx149_0, hl149_0, hi149_0⟩ := at_L3 (Kd.S_reads' HO_3.out).2.2 x91_5 p149 q149
                                                    cases e149
                                                    obtain ⟨ce149, hce149, hMe149, hcc149⟩ := Kd.S_get HO_3.out [] x91_5 p149 (by first | exact q149 | exact of_decide_eq_true (by first | (with_reducible assumption) | assumption) | (have e_ := (Kd.S_reads' HO_3.out).1; omega))
                                                    obtain ⟨ve149_0, rfl, ge149_0⟩ := hMe149
                                                    have hv149_0 := hcc149 0 _ rfl
                                                    rw [Nat.add_zero, show ((Kd.slice 26 k26)).sz = 1 from rfl, Nat.mul_one] at hv149_0
                                                    replace hv149_0 := Option.some.inj (hv149_0.symm.trans hx149_0)
                                                    rw [hv149_0] at ge149_0
                                                    have HL149_0 := Aside0.mk (show Kd.R k26 26 _ _ _ _ (rd_L3 x3_4 x91_5) from ge149_0)
                                                    clear hv149_0 ge149_0
                                                    have HX149_0 := Aside0.mk hx149_0
                                                    clear hcc149 hce149
                                                    have HR149_0 := Aside0.mk hi149_0
                                                    have HC149_0 := Aside0.mk hl149_0
                                                    clear hi149_0 hl149_0
                                                    replace p149 := eq_true p149
                                                    replace q149 := eq_true q149
                                                    have p150 : 0 ≤ (x99_6 : Int) := of_decide_eq_true (by first | (with_reducible assumption) | assumption)
                                                    have q150 : x99_6 < ((rd_L3 x3_4 x91_5).length : Int) := of_decide_eq_true (by first | (with_reducible assumption) | assumption)
                                                    obtain ⟨ad150, e150, hx150_0, hx150_1⟩ := at_T26 (by repeat (first | (with_reducible exact HR149_0.out) | (with_reducible refine Kd.C_alloc ?_ _) | (with_reducible refine Kd.C_drewN ?_ _) | (with_reducible refine Kd.C_drew ?_) | exact HR149_0.out)) x99_6 p150 q150
                                                    cases e150
                                                    replace p150 := eq_true p150
                                                    replace q150 := eq_true q150
                                                    go_wp2
                                                    repeat (go_quiet (fail); try go_wp2)
                                                    go_ret
                                                    exact ⟨by first | rfl | (simp [errW_none, errW_some] <;> rfl) | (simp [*, errW_none, errW_some] <;> rfl), by repeat (first | (with_reducible first | exact HB.out | apply below_alloc | apply pw_below_drewN | apply below_drew1) | exact HB.out)⟩
                                                  · rw [if_neg c56] at H
                                                    have c56b0 : (!(((rd_T26 (rd_L3 x3_4 x91_5) x99_6).f0) == (wrap64 ((-1) - x91_5))) || (!(((rd_T26 (rd_L3 x3_4 x91_5) x99_6).f1) == x99_6))) = false := by simpa using c56
                                                    clear c56
                                                    have H' := Aside0.mk H
                                                    clear H
                                                    have p149 : 0 ≤ (x91_5 : Int) := of_decide_eq_true (by first | (with_reducible assumption) | assumption)
                                                    have q149 : x91_5 < (x3_4.length : Int) := of_decide_eq_true (by first | (with_reducible assumption) | assumption)
                                                    obtain ⟨ad149, A149_0, c149_0, e149, hx149_0, hl149_0, hi149_0⟩ := at_L3 (Kd.S_reads' HO_3.out).2.2 x91_5 p149 q149
                                                    cases e149
                                                    obtain ⟨ce149, hce149, hMe149, hcc149⟩ := Kd.S_get HO_3.out [] x91_5 p149 (by first | exact q149 | exact of_decide_eq_true (by first | (with_reducible assumption) | assumption) | (have e_ := (Kd.S_reads' HO_3.out).1; omega))
                                                    obtain ⟨ve149_0, rfl, ge149_0⟩ := hMe149
                                                    have hv149_0 := hcc149 0 _ rfl
                                                    rw [Nat.add_zero, show ((Kd.slice 26 k26)).sz = 1 from rfl, Nat.mul_one] at hv149_0
                                                    replace hv149_0 := Option.some.inj (hv149_0.symm.trans hx149_0)
                                                    rw [hv149_0] at ge149_0
                                                    have HL149_0 := Aside0.mk (show Kd.R k26 26 _ _ _ _ (rd_L3 x3_4 x91_5) from ge149_0)
                                                    clear hv149_0 ge149_0
                                                    have HX149_0 := Aside0.mk hx149_0
                                                    clear hcc149 hce149
                                                    have HR149_0 := Aside0.mk hi149_0
                                                    have HC149_0 := Aside0.mk hl149_0
                                                    clear hi149_0 hl149_0
                                                    replace p149 := eq_true p149
                                                    replace q149 := eq_true q149
                                                    have p150 : 0 ≤ (x99_6 : Int) := of_decide_eq_true (by first | (with_reducible assumption) | assumption)
                                                    have q150 : x99_6 < ((rd_L3 x3_4 x91_5).length : Int) := of_decide_eq_true (by first | (with_reducible assumption) | assumption)
                                                    obtain ⟨ad150, e150, hx150_0, hx150_1⟩ := at_T26 (by repeat (first | (with_reducible exact HR149_0.out) | (with_reducible refine Kd.C_alloc ?_ _) | (with_reducible refine Kd.C_drewN ?_ _) | (with_reducible refine Kd.C_drew ?_) | exact HR149_0.out)) x99_6 p150 q150
                                                    cases e150
                                                    replace p150 := eq_true p150
                                                    replace q150 := eq_true q150
                                                    go_wp2
                                                    repeat (go_quiet (fail); try go_wp2)
                                                    go_roundg k6
                                                    case measure => have := HJ3.out; have := HK2.out; have := HK3.out; have := HK4.out; have := HK5.out; have := HK6.out; omega
                                                    case rel => exact ⟨(wrap64 (x99_6 + 1)), (by first | rfl | (simp; done) | (simp [*]; done)), H', ⟨by have := HJ3.out; have := HK2.out; have := HK3.out; have := HK4.out; have := HK5.out; have := HK6.out; omega⟩, ⟨by (try simp only [hl3_3]); (try simp only [hl3_4]); (with_reducible repeat (first | apply Kd.S_alloc | apply Kd.S_drewN | apply Kd.S_drew)); exact HO_3.out⟩, ⟨by (try simp only [hl3_3]); (try simp only [hl3_4]); (with_reducible repeat (first | apply Kd.S_alloc | apply Kd.S_drewN | apply Kd.S_drew)); exact HO_4.out⟩, ⟨by repeat (first | (with_reducible exact HR148_0.out) | (with_reducible refine Kd.C_alloc ?_ _) | (with_reducible refine Kd.C_drewN ?_ _) | (with_reducible refine Kd.C_drew ?_) | exact HR148_0.out)⟩, ⟨by repeat (first | (with_reducible first | exact HB.out | apply below_alloc | apply pw_below_drewN | apply below_drew1) | exact HB.out)⟩⟩
                                                · rw [if_neg c55] at H
                                                  exact absurd H (by simp)
                                              · rw [if_neg c54] at H
                                                exact absurd H (by simp)
                                            · rw [if_neg c53] at H
                                              exact absurd H (by simp)
                                          · rw [if_neg c52] at H
                                            exact absurd H (by simp)
                                        · rw [if_neg c51] at H
                                          have c51b0 : decide (x99_6 < ((rd_L4 t129 x91_5).length : Int)) = false := decide_eq_false c51
                                          (try rw [hl3_3] at c51b0)
                                          (try rw [hl3_4] at c51b0)
                                          (try rw [hl3_5] at c51b0)
                                          clear c51
                                          have H' := Aside0.mk H
                                          clear H
                                          go_wp2
                                          repeat (go_quiet (fail); try go_wp2)
                                          go_roundg k6
                                          case measure => have := HJ3.out; have := HK2.out; have := HK3.out; have := HK4.out; have := HK5.out; have := HK6.out; omega
                                          case rel => exact ⟨(wrap64 (x91_5 + 1)), (by first | rfl | (simp; done) | (simp [*]; done)), H', ⟨by have := HJ3.out; have := HK2.out; have := HK3.out; have := HK4.out; have := HK5.out; have := HK6.out; omega⟩, ⟨by (try simp only [hl3_3]); (try simp only [hl3_4]); (with_reducible repeat (first | apply Kd.S_alloc | apply Kd.S_drewN | apply Kd.S_drew)); exact HO_3.out⟩, ⟨by (try simp only [hl3_3]); (try simp only [hl3_4]); (with_reducible repeat (first | apply Kd.S_alloc | apply Kd.S_drewN | apply Kd.S_drew)); exact HO_4.out⟩, ⟨by repeat (first | (with_reducible first | exact HB.out | apply below_alloc | apply pw_below_drewN | apply below_drew1) | exact HB.out)⟩⟩
                                  · rw [if_neg c50] at H
                                    exact absurd H (by simp)
                                · rw [if_neg c49] at H
                                  exact absurd H (by simp)
                              · rw [if_neg c48] at H
                                have c48b0 : decide (x91_5 < (x3_4.length : Int)) = false := decide_eq_false c48
                                (try rw [hl3_3] at c48b0)
                                (try rw [hl3_4] at c48b0)
                                (try rw [hl3_5] at c48b0)
                                clear c48
                                replace H := Option.bind_eq_some_iff.mp H
                                obtain ⟨t151, A570, H⟩ := H
                                replace H : (barrowlaw26_SettleRounds.l7 k5 t129 t151 (t129.length : Int) 0) = some r := H
                                have A57 := Aside0.mk A570
                                clear A570
                                have H' := Aside0.mk H
                                clear H
                                go_wp2_with (first | (go_at_call 17; (with_reducible refine (settle_Rounds.calls k5 a0 t151 _ A57.out).mono ?_); rintro e w58 ⟨v152, rfl, ho0, hb⟩; have n0_ := Aside0.mk (Kd.S_elder' (by (with_reducible repeat (first | apply Kd.S_alloc | apply Kd.S_drewN | apply Kd.S_drew)); exact HO_3.out) (Kd.S_base ho0) hb); have n1_ := Aside0.mk (Kd.S_below (by (with_reducible repeat (first | apply Kd.S_alloc | apply Kd.S_drewN | apply Kd.S_drew)); exact HO_4.out) hb); have n2_ := Aside0.mk (Kd.S_lower (Kd.S_new' ho0 (Kd.S_lt (by (with_reducible repeat (first | apply Kd.S_alloc | apply Kd.S_drewN | apply Kd.S_drew)); exact HO_3.out))) (below_size (by repeat (first | (with_reducible first | exact HB.out | apply below_alloc | apply pw_below_drewN | apply below_drew1) | exact HB.out)))); have n3_ := Aside0.mk (below_step (by repeat (first | (with_reducible first | exact HB.out | apply below_alloc | apply pw_below_drewN | apply below_drew1) | exact HB.out)) hb); clear HO_3; clear HO_4; clear HB; have HO_3 := n0_; have HO_4 := n1_; have HO153 := n2_; have HB := n3_; clear n0_ n1_ n2_ n3_; (try clear hb); (try clear hb2); (try clear hk); (try clear hi); (try clear ho0)))
                                repeat (go_quiet (first | (go_at_call 17; (with_reducible refine (settle_Rounds.calls k5 a0 t151 _ A57.out).mono ?_); rintro e w58 ⟨v152, rfl, ho0, hb⟩; have n0_ := Aside0.mk (Kd.S_elder' (by (with_reducible repeat (first | apply Kd.S_alloc | apply Kd.S_drewN | apply Kd.S_drew)); exact HO_3.out) (Kd.S_base ho0) hb); have n1_ := Aside0.mk (Kd.S_below (by (with_reducible repeat (first | apply Kd.S_alloc | apply Kd.S_drewN | apply Kd.S_drew)); exact HO_4.out) hb); have n2_ := Aside0.mk (Kd.S_lower (Kd.S_new' ho0 (Kd.S_lt (by (with_reducible repeat (first | apply Kd.S_alloc | apply Kd.S_drewN | apply Kd.S_drew)); exact HO_3.out))) (below_size (by repeat (first | (with_reducible first | exact HB.out | apply below_alloc | apply pw_below_drewN | apply below_drew1) | exact HB.out)))); have n3_ := Aside0.mk (below_step (by repeat (first | (with_reducible first | exact HB.out | apply below_alloc | apply pw_below_drewN | apply below_drew1) | exact HB.out)) hb); clear HO_3; clear HO_4; clear HB; have HO_3 := n0_; have HO_4 := n1_; have HO153 := n2_; have HB := n3_; clear n0_ n1_ n2_ n3_; (try clear hb); (try clear hb2); (try clear hk); (try clear hi); (try clear ho0))); try go_wp2_with (first | (go_at_call 17; (with_reducible refine (settle_Rounds.calls k5 a0 t151 _ A57.out).mono ?_); rintro e w58 ⟨v152, rfl, ho0, hb⟩; have n0_ := Aside0.mk (Kd.S_elder' (by (with_reducible repeat (first | apply Kd.S_alloc | apply Kd.S_drewN | apply Kd.S_drew)); exact HO_3.out) (Kd.S_base ho0) hb); have n1_ := Aside0.mk (Kd.S_below (by (with_reducible repeat (first | apply Kd.S_alloc | apply Kd.S_drewN | apply Kd.S_drew)); exact HO_4.out) hb); have n2_ := Aside0.mk (Kd.S_lower (Kd.S_new' ho0 (Kd.S_lt (by (with_reducible repeat (first | apply Kd.S_alloc | apply Kd.S_drewN | apply Kd.S_drew)); exact HO_3.out))) (below_size (by repeat (first | (with_reducible first | exact HB.out | apply below_alloc | apply pw_below_drewN | apply below_drew1) | exact HB.out)))); have n3_ := Aside0.mk (below_step (by repeat (first | (with_reducible first | exact HB.out | apply below_alloc | apply pw_below_drewN | apply below_drew1) | exact HB.out)) hb); clear HO_3; clear HO_4; clear HB; have HO_3 := n0_; have HO_4 := n1_; have HO153 := n2_; have HB := n3_; clear n0_ n1_ n2_ n3_; (try clear hb); (try clear hb2); (try clear hk); (try clear hi); (try clear ho0))))
                                go_loopg [120] k5 (fun kq v120 w' => ∃ (x120_6 : Int), v120 = .int .i64 x120_6 ∧ Aside0 (barrowlaw26_SettleRounds.l7 kq t129 t151 (t129.length : Int) x120_6 = some r) ∧ Aside0 (kq ≤ k5) ∧ Aside0 (Kd.S (Kd.slice 60 k60) 34 w' w.heap.size (fun _ => True) (.slice Ao16 t129.length co16) t129) ∧ Aside0 (Kd.S (Kd.slice 26 k26) 22 w' w.heap.size (fun _ => True) v152 t151) ∧ Aside0 (Below w.heap.size w w'))
                                case atStart => exact ⟨(0), (by first | rfl | (simp; done) | (simp [*]; done)), H', ⟨Nat.le_refl _⟩, ⟨by (try simp only [hl3_3]); (try simp only [hl3_4]); (with_reducible repeat (first | apply Kd.S_alloc | apply Kd.S_drewN | apply Kd.S_drew)); exact HO_4.out⟩, ⟨by (try simp only [hl3_3]); (try simp only [hl3_4]); (with_reducible repeat (first | apply Kd.S_alloc | apply Kd.S_drewN | apply Kd.S_drew)); exact Kd.S_mono HO153.out (fun _ hk => trivial)⟩, ⟨by repeat (first | (with_reducible first | exact HB.out | apply below_alloc | apply pw_below_drewN | apply below_drew1) | exact HB.out)⟩⟩
                                case round =>
                                  clear H'
                                  try clear c1
                                  try clear p1
                                  try clear q1
                                  try clear hx1
                                  try clear c2
                                  try clear p2
                                  try clear c3
                                  try clear p3
                                  try clear q3
                                  try clear hx3
                                  try clear hf3
                                  try clear c4
                                  try clear p4
                                  try clear q4
                                  try clear hx4
                                  try clear hf4
                                  try clear c5
                                  try clear p6
                                  try clear c8
                                  try clear c8b0
                                  try clear c8b1
                                  try clear c13
                                  try clear p13
                                  try clear q13
                                  try clear hx13
                                  try clear c14
                                  try clear p14
                                  try clear q14
                                  try clear hx14
                                  try clear c15
                                  try clear p15
                                  try clear q15
                                  try clear hx15
                                  try clear c17
                                  try clear c17b0
                                  try clear c18
                                  try clear c18b0
                                  try clear c19
                                  try clear c19b0
                                  try clear c20
                                  try clear c20b0
                                  try clear c22
                                  try clear c26
                                  try clear c26b0
                                  try clear c27
                                  try clear c27b0
                                  try clear c28
                                  try clear c28b0
                                  try clear c29
                                  try clear c29b0
                                  try clear c30
                                  try clear c30b0
                                  try clear c31
                                  try clear c31b0
                                  try clear c32
                                  try clear c32b0
                                  try clear c33
                                  try clear c33b0
                                  try clear c34
                                  try clear p34
                                  try clear q34
                                  try clear hx34
                                  try clear hf34
                                  try clear c35
                                  try clear q35
                                  try clear c37
                                  try clear c37b0
                                  try clear c38
                                  try clear c38b0
                                  try clear c39
                                  try clear c39b0
                                  try clear c40
                                  try clear c40b0
                                  try clear c41
                                  try clear p42
                                  try clear q42
                                  try clear c43
                                  try clear c45
                                  try clear hx45
                                  try clear hf45
                                  try clear c48
                                  try clear c48b0
                                  try clear c49
                                  try clear c49b0
                                  try clear c50
                                  try clear c50b0
                                  try clear c51
                                  try clear c51b0
                                  try clear c52
                                  try clear c52b0
                                  try clear c53
                                  try clear c53b0
                                  try clear c54
                                  try clear c54b0
                                  try clear c55
                                  try clear c55b0
                                  try clear c56
                                  try clear c56b0
                                  try clear hx135_0
                                  try clear hx136_0
                                  try clear hx138_0
                                  try clear hx139_0
                                  try clear hx143_0
                                  try clear hx148_0
                                  try clear hx149_0
                                  try clear hx150_0
                                  try clear hx150_1
                                  try clear hx34_0
                                  try clear hx34_1
                                  try clear hx45_0
                                  try clear p1
                                  try clear p13
                                  try clear p135
                                  try clear p136
                                  try clear p138
                                  try clear p139
                                  try clear p14
                                  try clear p143
                                  try clear p148
                                  try clear p149
                                  try clear p150
                                  try clear p2
                                  try clear p3
                                  try clear p34
                                  try clear p4
                                  try clear p42
                                  try clear p6
                                  try clear q1
                                  try clear q13
                                  try clear q135
                                  try clear q136
                                  try clear q138
                                  try clear q139
                                  try clear q14
                                  try clear q143
                                  try clear q148
                                  try clear q149
                                  try clear q150
                                  try clear q3
                                  try clear q34
                                  try clear q35
                                  try clear q4
                                  try clear q42
                                  obtain ⟨x120_6, rfl, HA, HK6, HO_4, HO_11, HB⟩ := hrel
                                  cases gk with
                                  | zero => exact absurd HA.out (by simp [barrowlaw26_SettleRounds.l7])
                                  | succ k6 =>
                                    have H := HA.out
                                    clear HA
                                    simp only [barrowlaw26_SettleRounds.l7] at H
                                    by_cases c59 : x120_6 < (t129.length : Int)
                                    · rw [if_pos c59] at H
                                      have c59b0 : decide (x120_6 < (t129.length : Int)) = true := decide_eq_true c59
                                      (try rw [hl3_3] at c59b0)
                                      (try rw [hl3_4] at c59b0)
                                      (try rw [hl3_5] at c59b0)
                                      clear c59
                                      by_cases c60 : (t151.length : Int) = (t129.length : Int)
                                      · rw [if_pos c60] at H
                                        have c60b0 : ((t151.length : Int) == (t129.length : Int)) = true := beq_iff_eq.mpr c60
                                        have c60b1 : ((t151.length : Int) != (t129.length : Int)) = false := bne_eq_false_iff_eq.mpr c60
                                        have c60b2 : (t151.length == t129.length) = true := by first | simpa using c60 | (simp at c60 ⊢; omega)
                                        clear c60
                                        by_cases c61 : 0 ≤ x120_6
                                        · rw [if_pos c61] at H
                                          have c61b0 : decide (0 ≤ x120_6) = true := decide_eq_true c61
                                          clear c61
                                          by_cases c62 : x120_6 < (t151.length : Int)
                                          · rw [if_pos c62] at H
                                            have c62b0 : decide (x120_6 < (t151.length : Int)) = true := decide_eq_true c62
                                            (try rw [hl3_3] at c62b0)
                                            (try rw [hl3_4] at c62b0)
                                            (try rw [hl3_5] at c62b0)
                                            clear c62
                                            by_cases c63 : x120_6 < (t129.length : Int)
                                            · rw [if_pos c63] at H
                                              have c63b0 : decide (x120_6 < (t129.length : Int)) = true := decide_eq_true c63
                                              (try rw [hl3_3] at c63b0)
                                              (try rw [hl3_4] at c63b0)
                                              (try rw [hl3_5] at c63b0)
                                              clear c63
                                              replace H := Option.bind_eq_some_iff.mp H
                                              obtain ⟨t156, A640, H⟩ := H
                                              replace H : (if t156 = true then (barrowlaw26_SettleRounds.l7 k6 t129 t151 (t129.length : Int) (wrap64 (x120_6 + 1))) else (some false)) = some r := H
                                              have A64 := Aside0.mk A640
                                              clear A640
                                              by_cases c65 : t156 = true
                                              · subst c65
                                                have H1 : (barrowlaw26_SettleRounds.l7 k6 t129 t151 (t129.length : Int) (wrap64 (x120_6 + 1))) = some r := by rw [if_pos rfl] at H; exact H
                                                clear H
                                                have H := H1
                                                clear H1
                                                have H' := Aside0.mk H
                                                clear H
                                                obtain ⟨Ao66, co66, eo66⟩ := Kd.S_slice HO_11.out
                                                subst eo66
                                                have p154 : 0 ≤ (x120_6 : Int) := of_decide_eq_true (by first | (with_reducible assumption) | assumption)
                                                have q154 : x120_6 < (t151.length : Int) := of_decide_eq_true (by first | (with_reducible assumption) | assumption)
                                                obtain ⟨ad154, A154_0, c154_0, e154, hx154_0, hl154_0, hi154_0⟩ := at_L3 (Kd.S_reads' HO_11.out).2.2 x120_6 p154 q154
                                                cases e154
                                                obtain ⟨ce154, hce154, hMe154, hcc154⟩ := Kd.S_get HO_11.out [] x120_6 p154 (by first | exact q154 | exact of_decide_eq_true (by first | (with_reducible assumption) | assumption) | (have e_ := (Kd.S_reads' HO_11.out).1; omega))
                                                obtain ⟨ve154_0, rfl, ge154_0⟩ := hMe154
                                                have hv154_0 := hcc154 0 _ rfl
                                                rw [Nat.add_zero, show ((Kd.slice 26 k26)).sz = 1 from rfl, Nat.mul_one] at hv154_0
                                                replace hv154_0 := Option.some.inj (hv154_0.symm.trans hx154_0)
                                                rw [hv154_0] at ge154_0
                                                have HL154_0 := Aside0.mk (show Kd.R k26 26 _ _ _ _ (rd_L3 t151 x120_6) from ge154_0)
                                                clear hv154_0 ge154_0
                                                have HX154_0 := Aside0.mk hx154_0
                                                clear hcc154 hce154
                                                have HR154_0 := Aside0.mk hi154_0
                                                have HC154_0 := Aside0.mk hl154_0
                                                clear hi154_0 hl154_0
                                                replace p154 := eq_true p154
                                                replace q154 := eq_true q154
                                                have p155 : 0 ≤ (x120_6 : Int) := of_decide_eq_true (by first | (with_reducible assumption) | assumption)
                                                have q155 : x120_6 < (t129.length : Int) := of_decide_eq_true (by first | (with_reducible assumption) | assumption)
                                                obtain ⟨ad155, A155_0, c155_0, e155, hx155_0, hl155_0, hi155_0⟩ := at_L4 (Kd.S_reads' HO_4.out).2.2 x120_6 p155 q155
                                                cases e155
                                                obtain ⟨ce155, hce155, hMe155, hcc155⟩ := Kd.S_get HO_4.out [] x120_6 p155 (by first | exact q155 | exact of_decide_eq_true (by first | (with_reducible assumption) | assumption) | (have e_ := (Kd.S_reads' HO_4.out).1; omega))
                                                obtain ⟨ve155_0, rfl, ge155_0⟩ := hMe155
                                                have hv155_0 := hcc155 0 _ rfl
                                                rw [Nat.add_zero, show ((Kd.slice 60 k60)).sz = 1 from rfl, Nat.mul_one] at hv155_0
                                                replace hv155_0 := Option.some.inj (hv155_0.symm.trans hx155_0)
                                                rw [hv155_0] at ge155_0
                                                have HL155_0 := Aside0.mk (show Kd.R k60 60 _ _ _ _ (rd_L4 t129 x120_6) from ge155_0)
                                                clear hv155_0 ge155_0
                                                have HX155_0 := Aside0.mk hx155_0
                                                clear hcc155 hce155
                                                have HR155_0 := Aside0.mk hi155_0
                                                have HC155_0 := Aside0.mk hl155_0
                                                clear hi155_0 hl155_0
                                                replace p155 := eq_true p155
                                                replace q155 := eq_true q155
                                                go_wp2_with (first | (go_at_call 16; (with_reducible refine (barrowlaw26_samePairs.calls k6 _ _ (rd_L3 t151 x120_6) _ _ (rd_L4 t129 x120_6) true _ ?side1 ?side2 ?side3 ?side4 A64.out).mono ?_); (case side1 => repeat (first | exact (by repeat (first | (with_reducible exact HR154_0.out) | (with_reducible refine Kd.C_alloc ?_ _) | (with_reducible refine Kd.C_drewN ?_ _) | (with_reducible refine Kd.C_drew ?_) | exact HR154_0.out)) | (with_reducible refine Kd.C_alloc ?_ _) | (with_reducible refine Kd.C_drewN ?_ _) | (with_reducible refine Kd.C_drew ?_))); (case side2 => exact HC154_0.out); (case side3 => repeat (first | exact (by repeat (first | (with_reducible exact HR155_0.out) | (with_reducible refine Kd.C_alloc ?_ _) | (with_reducible refine Kd.C_drewN ?_ _) | (with_reducible refine Kd.C_drew ?_) | exact HR155_0.out)) | (with_reducible refine Kd.C_alloc ?_ _) | (with_reducible refine Kd.C_drewN ?_ _) | (with_reducible refine Kd.C_drew ?_))); (case side4 => exact HC155_0.out); rintro e w' ⟨rfl, ⟨nd, rfl⟩⟩; (try first | exact ⟨rfl, _, World.drewN_drewN _ _ _⟩ | exact ⟨rfl, _, Eq.trans (World.drewN_drewN _ _ _) (congrArg (World.drewN _) (Nat.add_assoc _ _ _))⟩)))
                                                repeat (go_quiet (first | (go_at_call 16; (with_reducible refine (barrowlaw26_samePairs.calls k6 _ _ (rd_L3 t151 x120_6) _ _ (rd_L4 t129 x120_6) true _ ?side1 ?side2 ?side3 ?side4 A64.out).mono ?_); (case side1 => repeat (first | exact (by repeat (first | (with_reducible exact HR154_0.out) | (with_reducible refine Kd.C_alloc ?_ _) | (with_reducible refine Kd.C_drewN ?_ _) | (with_reducible refine Kd.C_drew ?_) | exact HR154_0.out)) | (with_reducible refine Kd.C_alloc ?_ _) | (with_reducible refine Kd.C_drewN ?_ _) | (with_reducible refine Kd.C_drew ?_))); (case side2 => exact HC154_0.out); (case side3 => repeat (first | exact (by repeat (first | (with_reducible exact HR155_0.out) | (with_reducible refine Kd.C_alloc ?_ _) | (with_reducible refine Kd.C_drewN ?_ _) | (with_reducible refine Kd.C_drew ?_) | exact HR155_0.out)) | (with_reducible refine Kd.C_alloc ?_ _) | (with_reducible refine Kd.C_drewN ?_ _) | (with_reducible refine Kd.C_drew ?_))); (case side4 => exact HC155_0.out); rintro e w' ⟨rfl, ⟨nd, rfl⟩⟩; (try first | exact ⟨rfl, _, World.drewN_drewN _ _ _⟩ | exact ⟨rfl, _, Eq.trans (World.drewN_drewN _ _ _) (congrArg (World.drewN _) (Nat.add_assoc _ _ _))⟩))); try go_wp2_with (first | (go_at_call 16; (with_reducible refine (barrowlaw26_samePairs.calls k6 _ _ (rd_L3 t151 x120_6) _ _ (rd_L4 t129 x120_6) true _ ?side1 ?side2 ?side3 ?side4 A64.out).mono ?_); (case side1 => repeat (first | exact (by repeat (first | (with_reducible exact HR154_0.out) | (with_reducible refine Kd.C_alloc ?_ _) | (with_reducible refine Kd.C_drewN ?_ _) | (with_reducible refine Kd.C_drew ?_) | exact HR154_0.out)) | (with_reducible refine Kd.C_alloc ?_ _) | (with_reducible refine Kd.C_drewN ?_ _) | (with_reducible refine Kd.C_drew ?_))); (case side2 => exact HC154_0.out); (case side3 => repeat (first | exact (by repeat (first | (with_reducible exact HR155_0.out) | (with_reducible refine Kd.C_alloc ?_ _) | (with_reducible refine Kd.C_drewN ?_ _) | (with_reducible refine Kd.C_drew ?_) | exact HR155_0.out)) | (with_reducible refine Kd.C_alloc ?_ _) | (with_reducible refine Kd.C_drewN ?_ _) | (with_reducible refine Kd.C_drew ?_))); (case side4 => exact HC155_0.out); rintro e w' ⟨rfl, ⟨nd, rfl⟩⟩; (try first | exact ⟨rfl, _, World.drewN_drewN _ _ _⟩ | exact ⟨rfl, _, Eq.trans (World.drewN_drewN _ _ _) (congrArg (World.drewN _) (Nat.add_assoc _ _ _))⟩))))
                                                go_roundg k6
                                                case measure => have := HJ3.out; have := HK2.out; have := HK3.out; have := HK4.out; have := HK5.out; have := HK6.out; omega
                                                case rel => exact ⟨(wrap64 (x120_6 + 1)), (by first | rfl | (simp; done) | (simp [*]; done)), H', ⟨by have := HJ3.out; have := HK2.out; have := HK3.out; have := HK4.out; have := HK5.out; have := HK6.out; omega⟩, ⟨by (try simp only [hl3_3]); (try simp only [hl3_4]); (with_reducible repeat (first | apply Kd.S_alloc | apply Kd.S_drewN | apply Kd.S_drew)); exact HO_4.out⟩, ⟨by (try simp only [hl3_3]); (try simp only [hl3_4]); (with_reducible repeat (first | apply Kd.S_alloc | apply Kd.S_drewN | apply Kd.S_drew)); exact HO_11.out⟩, ⟨by repeat (first | (with_reducible first | exact HB.out | apply below_alloc | apply pw_below_drewN | apply below_drew1) | exact HB.out)⟩⟩
                                              · replace c65 := Bool.eq_false_iff.mpr c65
                                                subst c65
                                                have H1 : (some false) = some r := by rw [if_neg (show ¬ (false = true) by decide)] at H; exact H
                                                clear H
                                                have H := H1
                                                clear H1
                                                obtain rfl := Option.some.inj H
                                                obtain ⟨Ao67, co67, eo67⟩ := Kd.S_slice HO_11.out
                                                subst eo67
                                                have p154 : 0 ≤ (x120_6 : Int) := of_decide_eq_true (by first | (with_reducible assumption) | assumption)
                                                have q154 : x120_6 < (t151.length : Int) := of_decide_eq_true (by first | (with_reducible assumption) | assumption)
                                                obtain ⟨ad154, A154_0, c154_0, e154, hx154_0, hl154_0, hi154_0⟩ := at_L3 (Kd.S_reads' HO_11.out).2.2 x120_6 p154 q154
                                                cases e154
                                                obtain ⟨ce154, hce154, hMe154, hcc154⟩ := Kd.S_get HO_11.out [] x120_6 p154 (by first | exact q154 | exact of_decide_eq_true (by first | (with_reducible assumption) | assumption) | (have e_ := (Kd.S_reads' HO_11.out).1; omega))
                                                obtain ⟨ve154_0, rfl, ge154_0⟩ := hMe154
                                                have hv154_0 := hcc154 0 _ rfl
                                                rw [Nat.add_zero, show ((Kd.slice 26 k26)).sz = 1 from rfl, Nat.mul_one] at hv154_0
                                                replace hv154_0 := Option.some.inj (hv154_0.symm.trans hx154_0)
                                                rw [hv154_0] at ge154_0
                                                have HL154_0 := Aside0.mk (show Kd.R k26 26 _ _ _ _ (rd_L3 t151 x120_6) from ge154_0)
                                                clear hv154_0 ge154_0
                                                have HX154_0 := Aside0.mk hx154_0
                                                clear hcc154 hce154
                                                have HR154_0 := Aside0.mk hi154_0
                                                have HC154_0 := Aside0.mk hl154_0
                                                clear hi154_0 hl154_0
                                                replace p154 := eq_true p154
                                                replace q154 := eq_true q154
                                                have p155 : 0 ≤ (x120_6 : Int) := of_decide_eq_true (by first | (with_reducible assumption) | assumption)
                                                have q155 : x120_6 < (t129.length : Int) := of_decide_eq_true (by first | (with_reducible assumption) | assumption)
                                                obtain ⟨ad155, A155_0, c155_0, e155, hx155_0, hl155_0, hi155_0⟩ := at_L4 (Kd.S_reads' HO_4.out).2.2 x120_6 p155 q155
                                                cases e155
                                                obtain ⟨ce155, hce155, hMe155, hcc155⟩ := Kd.S_get HO_4.out [] x120_6 p155 (by first | exact q155 | exact of_decide_eq_true (by first | (with_reducible assumption) | assumption) | (have e_ := (Kd.S_reads' HO_4.out).1; omega))
                                                obtain ⟨ve155_0, rfl, ge155_0⟩ := hMe155
                                                have hv155_0 := hcc155 0 _ rfl
                                                rw [Nat.add_zero, show ((Kd.slice 60 k60)).sz = 1 from rfl, Nat.mul_one] at hv155_0
                                                replace hv155_0 := Option.some.inj (hv155_0.symm.trans hx155_0)
                                                rw [hv155_0] at ge155_0
                                                have HL155_0 := Aside0.mk (show Kd.R k60 60 _ _ _ _ (rd_L4 t129 x120_6) from ge155_0)
                                                clear hv155_0 ge155_0
                                                have HX155_0 := Aside0.mk hx155_0
                                                clear hcc155 hce155
                                                have HR155_0 := Aside0.mk hi155_0
                                                have HC155_0 := Aside0.mk hl155_0
                                                clear hi155_0 hl155_0
                                                replace p155 := eq_true p155
                                                replace q155 := eq_true q155
                                                go_wp2_with (first | (go_at_call 16; (with_reducible refine (barrowlaw26_samePairs.calls k6 _ _ (rd_L3 t151 x120_6) _ _ (rd_L4 t129 x120_6) false _ ?side1 ?side2 ?side3 ?side4 A64.out).mono ?_); (case side1 => repeat (first | exact (by repeat (first | (with_reducible exact HR154_0.out) | (with_reducible refine Kd.C_alloc ?_ _) | (with_reducible refine Kd.C_drewN ?_ _) | (with_reducible refine Kd.C_drew ?_) | exact HR154_0.out)) | (with_reducible refine Kd.C_alloc ?_ _) | (with_reducible refine Kd.C_drewN ?_ _) | (with_reducible refine Kd.C_drew ?_))); (case side2 => exact HC154_0.out); (case side3 => repeat (first | exact (by repeat (first | (with_reducible exact HR155_0.out) | (with_reducible refine Kd.C_alloc ?_ _) | (with_reducible refine Kd.C_drewN ?_ _) | (with_reducible refine Kd.C_drew ?_) | exact HR155_0.out)) | (with_reducible refine Kd.C_alloc ?_ _) | (with_reducible refine Kd.C_drewN ?_ _) | (with_reducible refine Kd.C_drew ?_))); (case side4 => exact HC155_0.out); rintro e w' ⟨rfl, ⟨nd, rfl⟩⟩; (try first | exact ⟨rfl, _, World.drewN_drewN _ _ _⟩ | exact ⟨rfl, _, Eq.trans (World.drewN_drewN _ _ _) (congrArg (World.drewN _) (Nat.add_assoc _ _ _))⟩)))
                                                repeat (go_quiet (first | (go_at_call 16; (with_reducible refine (barrowlaw26_samePairs.calls k6 _ _ (rd_L3 t151 x120_6) _ _ (rd_L4 t129 x120_6) false _ ?side1 ?side2 ?side3 ?side4 A64.out).mono ?_); (case side1 => repeat (first | exact (by repeat (first | (with_reducible exact HR154_0.out) | (with_reducible refine Kd.C_alloc ?_ _) | (with_reducible refine Kd.C_drewN ?_ _) | (with_reducible refine Kd.C_drew ?_) | exact HR154_0.out)) | (with_reducible refine Kd.C_alloc ?_ _) | (with_reducible refine Kd.C_drewN ?_ _) | (with_reducible refine Kd.C_drew ?_))); (case side2 => exact HC154_0.out); (case side3 => repeat (first | exact (by repeat (first | (with_reducible exact HR155_0.out) | (with_reducible refine Kd.C_alloc ?_ _) | (with_reducible refine Kd.C_drewN ?_ _) | (with_reducible refine Kd.C_drew ?_) | exact HR155_0.out)) | (with_reducible refine Kd.C_alloc ?_ _) | (with_reducible refine Kd.C_drewN ?_ _) | (with_reducible refine Kd.C_drew ?_))); (case side4 => exact HC155_0.out); rintro e w' ⟨rfl, ⟨nd, rfl⟩⟩; (try first | exact ⟨rfl, _, World.drewN_drewN _ _ _⟩ | exact ⟨rfl, _, Eq.trans (World.drewN_drewN _ _ _) (congrArg (World.drewN _) (Nat.add_assoc _ _ _))⟩))); try go_wp2_with (first | (go_at_call 16; (with_reducible refine (barrowlaw26_samePairs.calls k6 _ _ (rd_L3 t151 x120_6) _ _ (rd_L4 t129 x120_6) false _ ?side1 ?side2 ?side3 ?side4 A64.out).mono ?_); (case side1 => repeat (first | exact (by repeat (first | (with_reducible exact HR154_0.out) | (with_reducible refine Kd.C_alloc ?_ _) | (with_reducible refine Kd.C_drewN ?_ _) | (with_reducible refine Kd.C_drew ?_) | exact HR154_0.out)) | (with_reducible refine Kd.C_alloc ?_ _) | (with_reducible refine Kd.C_drewN ?_ _) | (with_reducible refine Kd.C_drew ?_))); (case side2 => exact HC154_0.out); (case side3 => repeat (first | exact (by repeat (first | (with_reducible exact HR155_0.out) | (with_reducible refine Kd.C_alloc ?_ _) | (with_reducible refine Kd.C_drewN ?_ _) | (with_reducible refine Kd.C_drew ?_) | exact HR155_0.out)) | (with_reducible refine Kd.C_alloc ?_ _) | (with_reducible refine Kd.C_drewN ?_ _) | (with_reducible refine Kd.C_drew ?_))); (case side4 => exact HC155_0.out); rintro e w' ⟨rfl, ⟨nd, rfl⟩⟩; (try first | exact ⟨rfl, _, World.drewN_drewN _ _ _⟩ | exact ⟨rfl, _, Eq.trans (World.drewN_drewN _ _ _) (congrArg (World.drewN _) (Nat.add_assoc _ _ _))⟩))))
                                                go_ret
                                                exact ⟨by first | rfl | (simp [errW_none, errW_some] <;> rfl) | (simp [*, errW_none, errW_some] <;> rfl), by repeat (first | (with_reducible first | exact HB.out | apply below_alloc | apply pw_below_drewN | apply below_drew1) | exact HB.out)⟩
                                            · rw [if_neg c63] at H
                                              exact absurd H (by simp)
                                          · rw [if_neg c62] at H
                                            exact absurd H (by simp)
                                        · rw [if_neg c61] at H
                                          exact absurd H (by simp)
                                      · rw [if_neg c60] at H
                                        have c60b0 : ((t151.length : Int) == (t129.length : Int)) = false := beq_eq_false_iff_ne.mpr c60
                                        have c60b1 : ((t151.length : Int) != (t129.length : Int)) = true := bne_iff_ne.mpr c60
                                        have c60b2 : (t151.length == t129.length) = false := by first | simpa using c60 | (simp at c60 ⊢; omega)
                                        obtain rfl := Option.some.inj H
                                        obtain ⟨Ao68, co68, eo68⟩ := Kd.S_slice HO_11.out
                                        subst eo68
                                        go_wp2
                                        repeat (go_quiet (fail); try go_wp2)
                                        go_ret
                                        exact ⟨by first | rfl | (simp [errW_none, errW_some] <;> rfl) | (simp [*, errW_none, errW_some] <;> rfl), by repeat (first | (with_reducible first | exact HB.out | apply below_alloc | apply pw_below_drewN | apply below_drew1) | exact HB.out)⟩
                                    · rw [if_neg c59] at H
                                      have c59b0 : decide (x120_6 < (t129.length : Int)) = false := decide_eq_false c59
                                      (try rw [hl3_3] at c59b0)
                                      (try rw [hl3_4] at c59b0)
                                      (try rw [hl3_5] at c59b0)
                                      clear c59
                                      obtain rfl := Option.some.inj H
                                      go_wp2
                                      repeat (go_quiet (fail); try go_wp2)
                                      go_ret
                                      exact ⟨by first | rfl | (simp [errW_none, errW_some] <;> rfl) | (simp [*, errW_none, errW_some] <;> rfl), by repeat (first | (with_reducible first | exact HB.out | apply below_alloc | apply pw_below_drewN | apply below_drew1) | exact HB.out)⟩

/-- THE ONE PURE STATEMENT of barrowlaw26_SettleRounds: yours. -/
def barrowlaw26_SettleRounds.Pure : Prop := ∀ (a0 : Int), (Lit.int .i64 a0).wf = true → ∃ k, barrowlaw26_SettleRounds.f k a0 = some true
theorem barrowlaw26_SettleRounds.walk (P : barrowlaw26_SettleRounds.Pure) (a0 : Int) (w : World) (w0 : (Lit.int .i64 a0).wf = true) :
    Calls Try.prog 5 #[.int .i64 a0] w fun e w' => e = .returned (.bool true) ∧ Below w.heap.size w w' := by
  obtain ⟨k, h⟩ := P a0 w0
  refine (barrowlaw26_SettleRounds.calls k a0 true w h).mono ?_
  rintro e w' ⟨rfl, hd⟩
  exact ⟨rfl, hd⟩

end Go.Proofs.Ythpdemfehkoniaa.PSettleRounds
