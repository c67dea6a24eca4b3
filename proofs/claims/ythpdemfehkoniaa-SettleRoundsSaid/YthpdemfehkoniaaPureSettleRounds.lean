/- SettleRounds: for every number of replicas the program's Rounds is the document's, asked twice, its lists unshared. No condition. The number counts through its clamp alone, so sixteen cases are all there are. -/
import Derived.Test.YthpdemfehkoniaaMySettleRoundsB
namespace Go.Proofs.Ythpdemfehkoniaa.Pure
open Go.RowKit Go.Proofs.Ythpdemfehkoniaa.PSettleRounds Go.Proofs.YthpdemfehkoniaaW.PrintWords Go.Proofs.YthpdemfehkoniaaW.PrintLast

theorem sr_clamp (a : Int) : ∃ n : Nat, n < 16 ∧ settle_clamp.f a = settle_clamp.f (n + 1) ∧ barrowref26_Reps.f a = barrowref26_Reps.f (n + 1) := by
  by_cases h1 : a < 1
  · refine ⟨0, by omega, ?_, ?_⟩
    · unfold settle_clamp.f mx mn; congr 1; split <;> split <;> (try split) <;> (try split) <;> omega
    · unfold barrowref26_Reps.f; rw [if_pos h1]; rfl
  · by_cases h2 : a > 16
    · refine ⟨15, by omega, ?_, ?_⟩
      · unfold settle_clamp.f mx mn; congr 1; split <;> split <;> (try split) <;> (try split) <;> omega
      · unfold barrowref26_Reps.f; rw [if_neg h1, if_pos h2]; rfl
    · refine ⟨(a - 1).toNat, by omega, ?_, ?_⟩
      · rw [show ((a - 1).toNat : Int) + 1 = a from by omega]
      · rw [show ((a - 1).toNat : Int) + 1 = a from by omega]

theorem sr_ls {a b : Int} (h : ∀ k, settle_Rounds.f k a = settle_Rounds.f k b) : ∀ (k : Nat),
    (∀ x y i j, barrowlaw26_SettleRounds.l0 k a x y i j = barrowlaw26_SettleRounds.l0 k b x y i j) ∧
    (∀ x y i j, barrowlaw26_SettleRounds.l1 k a x y i j = barrowlaw26_SettleRounds.l1 k b x y i j) ∧
    (∀ x y i j m n o, barrowlaw26_SettleRounds.l2 k a x y i j m n o = barrowlaw26_SettleRounds.l2 k b x y i j m n o) ∧
    (∀ x y i j, barrowlaw26_SettleRounds.l3 k a x y i j = barrowlaw26_SettleRounds.l3 k b x y i j) ∧
    (∀ x y i j m n, barrowlaw26_SettleRounds.l4 k a x y i j m n = barrowlaw26_SettleRounds.l4 k b x y i j m n) ∧
    (∀ x y i j, barrowlaw26_SettleRounds.l5 k a x y i j = barrowlaw26_SettleRounds.l5 k b x y i j) ∧
    (∀ x y i j m n o, barrowlaw26_SettleRounds.l6 k a x y i j m n o = barrowlaw26_SettleRounds.l6 k b x y i j m n o) := by
  intro k
  induction k with
  | zero => refine ⟨?_, ?_, ?_, ?_, ?_, ?_, ?_⟩ <;> intros <;> rfl
  | succ k ih =>
    obtain ⟨h0, h1, h2, h3, h4, h5, h6⟩ := ih
    refine ⟨?_, ?_, ?_, ?_, ?_, ?_, ?_⟩
    · intros; simp only [barrowlaw26_SettleRounds.l0, h0, h1]
    · intros; simp only [barrowlaw26_SettleRounds.l1, h2, h3]
    · intros; simp only [barrowlaw26_SettleRounds.l2, h1, h2]
    · intros; simp only [barrowlaw26_SettleRounds.l3, h4, h5]
    · intros; simp only [barrowlaw26_SettleRounds.l4, h3, h4]
    · intros; simp only [barrowlaw26_SettleRounds.l5, h6, h]
    · intros; simp only [barrowlaw26_SettleRounds.l6, h5, h6]

theorem sr_same (a b : Int) (hc : settle_clamp.f a = settle_clamp.f b) (hr : barrowref26_Reps.f a = barrowref26_Reps.f b) (k : Nat) :
    barrowlaw26_SettleRounds.f k a = barrowlaw26_SettleRounds.f k b := by
  have h1 : ∀ k, settle_Rounds.f k a = settle_Rounds.f k b := fun k => by unfold settle_Rounds.f; rw [hc]
  have h2 : ∀ k, barrowref26_Rounds.f k a = barrowref26_Rounds.f k b := fun k => by unfold barrowref26_Rounds.f; rw [hr]
  have h3 : ∀ (k : Nat) x y t, barrowlaw26_SettleRounds.j0 k a x y t = barrowlaw26_SettleRounds.j0 k b x y t := by
    intro k x y t
    cases k with
    | zero => rfl
    | succ k => simp only [barrowlaw26_SettleRounds.j0, (sr_ls h1 k).1]
  unfold barrowlaw26_SettleRounds.f
  rw [h1, h2]
  simp only [h3]

theorem sr_all : ∀ n, n < 16 → barrowlaw26_SettleRounds.f 600 ((n : Nat) + 1 : Int) = some true := by decide +kernel

theorem SettleRounds : barrowlaw26_SettleRounds.Pure := by
  intro a _
  obtain ⟨n, hn, hc, hr⟩ := sr_clamp a
  exact ⟨600, by rw [sr_same a _ hc hr]; exact sr_all n hn⟩

end Go.Proofs.Ythpdemfehkoniaa.Pure
