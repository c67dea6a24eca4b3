/- SettlePairs: for every number of replicas the program's Pairs is the document's, asked twice. No condition. The number counts through its clamp alone, so sixteen cases are all there are. -/
import Derived.Test.YthpdemfehkoniaaMySettlePairs
namespace Go.Proofs.Ythpdemfehkoniaa.Pure
open Go.RowKit Go.Proofs.Ythpdemfehkoniaa.PSettlePairs Go.Proofs.YthpdemfehkoniaaW.PrintWords Go.Proofs.YthpdemfehkoniaaW.PrintLast

theorem sp_clamp (a : Int) : ∃ n : Nat, n < 16 ∧ settle_clamp.f a = settle_clamp.f (n + 1) ∧ barrowref26_Reps.f a = barrowref26_Reps.f (n + 1) := by
  by_cases h1 : a < 1
  · refine ⟨0, by omega, ?_, ?_⟩
    · unfold settle_clamp.f mx mn; congr 1; split <;> split <;> (try split) <;> (try split) <;> omega
    · unfold barrowref26_Reps.f; rw [if_pos h1]; rfl
  · by_cases h2 : a > 16
    · refine ⟨15, by omega, ?_, ?_⟩
      · unfold settle_clamp.f mx mn; congr 1; split <;> split <;> (try split) <;> (try split) <;> omega
      · unfold barrowref26_Reps.f; rw [if_neg h1, if_pos h2]; rfl
    · refine ⟨(a - 1).toNat, by omega, ?_, ?_⟩
      · rw [show ((a - 1).toNat : Int) + 1 = a from by omega]
      · rw [show ((a - 1).toNat : Int) + 1 = a from by omega]

theorem sp_l0 {a b : Int} (h : ∀ k, settle_Pairs.f k a = settle_Pairs.f k b) : ∀ (k : Nat) (x : List S26) (y : List S60) (m i : Int),
    barrowlaw26_SettlePairs.l0 k a x y m i = barrowlaw26_SettlePairs.l0 k b x y m i := by
  intro k
  induction k with
  | zero => intros; rfl
  | succ k ih => intro x y m i; unfold barrowlaw26_SettlePairs.l0; simp only [ih, h]

theorem sp_same (a b : Int) (hc : settle_clamp.f a = settle_clamp.f b) (hr : barrowref26_Reps.f a = barrowref26_Reps.f b) (k : Nat) :
    barrowlaw26_SettlePairs.f k a = barrowlaw26_SettlePairs.f k b := by
  have h1 : ∀ k, settle_Pairs.f k a = settle_Pairs.f k b := fun k => by unfold settle_Pairs.f; rw [hc]
  have h2 : ∀ k, barrowref26_Pairs.f k a = barrowref26_Pairs.f k b := fun k => by unfold barrowref26_Pairs.f; rw [hr]
  have h3 : ∀ (k : Nat) (x : List S26) (y : List S60) (t : Bool), barrowlaw26_SettlePairs.j0 k a x y t = barrowlaw26_SettlePairs.j0 k b x y t := by
    intro k x y t
    cases k with
    | zero => rfl
    | succ k => unfold barrowlaw26_SettlePairs.j0; simp only [sp_l0 h1]
  unfold barrowlaw26_SettlePairs.f
  rw [h1, h2]
  simp only [h3]

theorem sp_all : ∀ n, n < 16 → barrowlaw26_SettlePairs.f 600 ((n : Nat) + 1 : Int) = some true := by decide +kernel

theorem SettlePairs : barrowlaw26_SettlePairs.Pure := by
  intro a _
  obtain ⟨n, hn, hc, hr⟩ := sp_clamp a
  exact ⟨600, by rw [sp_same a _ hc hr]; exact sp_all n hn⟩

end Go.Proofs.Ythpdemfehkoniaa.Pure
