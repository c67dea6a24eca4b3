/- The document's Enough: the walk. No condition but that the list of pairs is there. -/
import Derived.Test.YthpdemfehkoniaaSetPure2
namespace Go.Proofs.Ythpdemfehkoniaa.PSet
open Go.RowKit Go.Proofs.YthpdemfehkoniaaW.PrintWords Go.Proofs.YthpdemfehkoniaaW.PrintLast Go.Proofs.YthpdemfehkoniaaW.PrintMore Go.Proofs.YthpdemfehkoniaaW.AO
set_option linter.unusedVariables false
set_option linter.unusedSimpArgs false
theorem refB_snoc (n : Nat) (L : List (List Int)) (i : Nat) (hi : i < L.length) : refB n (L.take (i + 1)) = (refB n (L.take i) && decide ((rd_L2 L (i : Int)).length = n)) := by
  unfold refB rd_L2
  rw [List.take_succ_eq_append_getElem hi, List.all_append]
  simp [List.getD_eq_getElem?_getD, List.getElem?_eq_getElem hi]
theorem refB_false (n : Nat) (L : List (List Int)) (i : Nat) (hi : i < L.length) (h : (rd_L2 L (i : Int)).length ≠ n) : refB n L = false := by
  rw [← List.take_append_drop (i + 1) L]
  unfold refB
  rw [List.all_append]
  have := refB_snoc n L i hi
  unfold refB at this
  rw [this, decide_eq_false h, Bool.and_false, Bool.false_and]
set_option maxHeartbeats 16000000 in
set_option maxRecDepth 100000 in
theorem barrowref26_Enough_calls (a0 : Int) (n : Nat) (hrep : barrowref26_Reps.f a0 = some (n : Int)) (hn : n ≤ 16) (A1 : Option Addr) (c1 : Nat) (l1 : List S60) (w : World) (hr1 : Kd.C k60 w A1 l1.length l1) (hc1 : l1.length ≤ c1) (r : Bool) (hres : refB n (rOut n l1 n) = r) :
    Calls Try.prog 27 #[.int .i64 a0, .slice A1 l1.length c1] w fun e w' => e = .returned (.bool r) ∧ Below w.heap.size w w' := by
  have HR := Aside0.mk hr1
  have HC := Aside0.mk hc1
  have HN := Aside0.mk hrep
  have HRES := Aside0.mk hres
  clear hr1 hc1 hrep hres
  obtain ⟨L, hL⟩ : ∃ L, L = rOut n l1 n := ⟨_, rfl⟩
  have hLl : L.length = n := by rw [hL, rOut_len]
  rw [← hL] at HRES
  have HLL := Aside0.mk hLl
  have HLe := Aside0.mk hL
  clear hLl hL
  have hn' : (n : Int) ≤ 16 := by omega
  go_enter Try.func27, Try.ntmps27
  go_wp2_with (first
    | ((with_reducible refine gate_callee (f := 30) rfl ?_); refine goesL_ (some 9) rfl rfl Try.func30 (by kernel_rfl) rfl #[.int .i64 a0] rfl (by (simp only [List.map_toArray, List.map_cons, List.map_nil]; first | done | rfl)) ?_; (refine (barrowref26_Reps.calls a0 n _ HN.out).mono ?_); rintro e w1 ⟨rfl, ⟨nd, rfl⟩⟩; refine ⟨_, rfl, ?_⟩; have HB1 := Aside0.mk (pw_below_drewN (Below.refl w.heap.size w) nd))
    | ((with_reducible refine gate_callee (f := 21) rfl ?_); refine goesL_ (some 12) rfl rfl Try.func21 (by kernel_rfl) rfl #[.int .i64 a0, .slice A1 l1.length c1] rfl (by (simp only [List.map_toArray, List.map_cons, List.map_nil]; first | done | rfl)) ?_; (refine (barrowref26_Reach_calls a0 n HN.out hn A1 c1 l1 _ (Kd.C_below HR.out HB1.out) HC.out).mono ?_); rintro e w2 ⟨v2, rfl, ho2, hb2⟩; refine ⟨_, rfl, ?_⟩; rw [← HLe.out] at ho2; have HO2 := Aside0.mk ((AO.nil _ w.heap.size).push hb2 HB1.out.size (Kd.S_R ho2)); have HB2 := Aside0.mk (below_step HB1.out hb2); clear ho2 hb2 HB1; obtain ⟨A2, c2, rfl, hc2, _⟩ := HO2.out.reads (i := 0) rfl; clear hc2))
  rw [HLL.out] at HO2
  simp only [HLL.out]
  go_loopg [14] n (fun k v14 wr => ∃ i : Nat, i ≤ n ∧ v14 = .int .i64 i ∧ Aside0 (k + i = n) ∧ Aside0 (refB n (L.take i) = true) ∧ Aside0 (AO wr w.heap.size [⟨Kd.slice 3 (Kd.int .i64), 45, .slice A2 n c2, L⟩]) ∧ Aside0 (Below w.heap.size w wr))
  case atStart => exact ⟨0, Nat.zero_le _, rfl, ⟨rfl⟩, ⟨rfl⟩, HO2, HB2⟩
  case round =>
    obtain ⟨i, hi, rfl, HK, HT, HO, HB⟩ := hrel
    clear HO2 HB2
    by_cases hlt : i < n
    · obtain ⟨ad, Ai, ci, e0, hx, hli, _⟩ := at_L2 (Kd.R_reads' (HO.out.own (i := 0) rfl)).2.2 (i : Int) (by omega) (by rw [HLL.out]; omega)
      cases e0
      simp only [Int.toNat_natCast] at hx
      obtain ⟨m, hm⟩ : ∃ m, m = (rd_L2 L (i : Int)).length := ⟨_, rfl⟩
      rw [← hm] at hx
      have HM := Aside0.mk hm
      clear hm hli
      by_cases hmn : m = n
      · have hb0 : ((m : Int) != (n : Int)) = false := by rw [hmn]; simp
        have HMn := Aside0.mk hmn
        clear hmn
        go_wp2
        go_roundg (n - (i + 1))
        case measure => have := HK.out; omega
        case rel => exact ⟨i + 1, by omega, by go_num, ⟨by omega⟩, ⟨by rw [refB_snoc n L i (by rw [HLL.out]; omega), HT.out, ← HM.out, decide_eq_true HMn.out]; rfl⟩, HO, HB⟩
      · have hb0 : ((m : Int) != (n : Int)) = true := by rw [bne_iff_ne]; omega
        have HMn := Aside0.mk hmn
        clear hmn
        have hr : r = false := by rw [← HRES.out]; exact refB_false n L i (by rw [HLL.out]; omega) (by rw [← HM.out]; exact HMn.out)
        subst hr
        go_wp2
        go_ret
        exact ⟨rfl, HB.out⟩
    · have hr : r = true := by rw [← HRES.out]; have h := HT.out; rw [List.take_of_length_le (by rw [HLL.out]; omega)] at h; exact h
      subst hr
      go_wp2
      go_ret
      exact ⟨rfl, HB.out⟩
end Go.Proofs.Ythpdemfehkoniaa.PSet
