/- Walks of functions of the layer settle and of its reference, out of the kit's print (turned: the header off, the lengths' equations laid). -/
import Derived.Test.YthpdemfehkoniaaSet0
import Derived.Test.YthpdemfehkoniaaSet3
namespace Go.Proofs.Ythpdemfehkoniaa.PSet
open Go.RowKit Go.Proofs.YthpdemfehkoniaaW.PrintWords Go.Proofs.YthpdemfehkoniaaW.PrintLast Go.Proofs.YthpdemfehkoniaaW.PrintMore
attribute [local go_sem] max2_int min2_int max_two min_two max_three min_three max_four min_four   -- for this text's walks alone
set_option linter.unusedVariables false
set_option linter.unusedSimpArgs false

-- NOT PRINTED: function 26 (barrowlaw26_asks)

-- NOT PRINTED: function 8 (barrowlaw26_SettleMemory)

/-! ### settle_Pairs: function 14 -/
mutual
def settle_Pairs.l0 : Nat → Int → List (S26) → Int → Int → Option ((List (S26)))
  | 0, _, _, _, _ => none
  | k + 1, x0, x3, x8, x9 => if x9 < x8 then (settle_Pairs.l1 k x0 x3 x9 x8 x9 x0 0) else (some x3)
def settle_Pairs.l1 : Nat → Int → List (S26) → Int → Int → Int → Int → Int → Option ((List (S26)))
  | 0, _, _, _, _, _, _, _ => none
  | k + 1, x0, x3, x4, x8, x9, x12, x13 => if x13 < x12 then (if x4 = x13 then (settle_Pairs.l1 k x0 x3 x4 x8 x9 x12 (wrap64 (x13 + 1))) else (if x3.length < 8796093022208 then (settle_Pairs.l1 k x0 (x3 ++ [(⟨x4, x13⟩ : S26)]) x4 x8 x9 x12 (wrap64 (x13 + 1))) else (none))) else (settle_Pairs.l0 k x0 x3 x8 (wrap64 (x9 + 1)))
end
def settle_Pairs.f (k : Nat) (a0 : Int) : Option ((List (S26))) := (settle_clamp.f a0).bind fun t275 => (settle_Pairs.l0 k t275 ([] : List (S26)) t275 0)
theorem settle_Pairs.mono_l : ∀ k, (∀ y0 y1 y2 y3, LeO (settle_Pairs.l0 k y0 y1 y2 y3) (settle_Pairs.l0 (k + 1) y0 y1 y2 y3)) ∧ (∀ y0 y1 y2 y3 y4 y5 y6, LeO (settle_Pairs.l1 k y0 y1 y2 y3 y4 y5 y6) (settle_Pairs.l1 (k + 1) y0 y1 y2 y3 y4 y5 y6))
  | 0 => ⟨fun _ _ _ _ r h => by simp [settle_Pairs.l0] at h, fun _ _ _ _ _ _ _ r h => by simp [settle_Pairs.l1] at h⟩
  | k + 1 => by
    obtain ⟨ih0, ih1⟩ := settle_Pairs.mono_l k
    refine ⟨?_, ?_⟩
    · intro y0 y1 y2 y3
      unfold settle_Pairs.l0
      repeat' first
      | (with_reducible exact ih0 _ _ _ _)
      | (with_reducible exact ih1 _ _ _ _ _ _ _)
      | (with_reducible exact LeO.refl _)
      | (with_reducible exact LeO.none _)
      | (with_reducible refine LeO.ite ?_ ?_)
      | (with_reducible refine LeO.bind ?_ (fun _ => ?_))
      | exact ih0 _ _ _ _
      | exact ih1 _ _ _ _ _ _ _
      | exact LeO.none _
      | refine LeO.ite ?_ ?_
      | refine LeO.bind ?_ (fun _ => ?_)
    · intro y0 y1 y2 y3 y4 y5 y6
      unfold settle_Pairs.l1
      repeat' first
      | (with_reducible exact ih0 _ _ _ _)
      | (with_reducible exact ih1 _ _ _ _ _ _ _)
      | (with_reducible exact LeO.refl _)
      | (with_reducible exact LeO.none _)
      | (with_reducible refine LeO.ite ?_ ?_)
      | (with_reducible refine LeO.bind ?_ (fun _ => ?_))
      | exact ih0 _ _ _ _
      | exact ih1 _ _ _ _ _ _ _
      | exact LeO.none _
      | refine LeO.ite ?_ ?_
      | refine LeO.bind ?_ (fun _ => ?_)
theorem settle_Pairs.mono : ∀ a0 k, LeO (settle_Pairs.f k a0) (settle_Pairs.f (k + 1) a0) := by
  intro a0 k
  obtain ⟨ih0, ih1⟩ := settle_Pairs.mono_l k
  unfold settle_Pairs.f
  repeat' first
      | (with_reducible exact ih0 _ _ _ _)
      | (with_reducible exact ih1 _ _ _ _ _ _ _)
      | (with_reducible exact LeO.refl _)
      | (with_reducible exact LeO.none _)
      | (with_reducible refine LeO.ite ?_ ?_)
      | (with_reducible refine LeO.bind ?_ (fun _ => ?_))
      | exact ih0 _ _ _ _
      | exact ih1 _ _ _ _ _ _ _
      | exact LeO.none _
      | refine LeO.ite ?_ ?_
      | refine LeO.bind ?_ (fun _ => ?_)
set_option maxHeartbeats 8000000 in
set_option maxRecDepth 100000 in
theorem settle_Pairs.calls (k : Nat) (a0 : Int) (r : List (S26)) (w : World) (h : settle_Pairs.f k a0 = some r) :
    Calls Try.prog 14 #[.int .i64 a0] w fun e w' => ∃ v0_ : Value, e = .returned (v0_) ∧ Kd.R k26 26 w' w.heap.size (fun _ => True) v0_ r ∧ Below w.heap.size w w' := by
  have hu26 := Try.underlying26
  have HB := Aside0.mk (Below.refl w.heap.size w)
  have H : ((settle_clamp.f a0).bind fun t275 => (settle_Pairs.l0 k t275 ([] : List (S26)) t275 0)) = some r := h
  clear h
  replace H := Option.bind_eq_some_iff.mp H
  obtain ⟨t275, A20, H⟩ := H
  replace H : (settle_Pairs.l0 k t275 ([] : List (S26)) t275 0) = some r := H
  have A2 := Aside0.mk A20
  clear A20
  have H' := Aside0.mk H
  clear H
  go_enter Try.func14, Try.ntmps14
  go_wp2_with (first | ((with_reducible refine gate_callee (f := 29) rfl ?_); refine goesL_ (some 7) rfl rfl Try.func29 (by kernel_rfl) rfl #[.int .i64 a0] rfl (by (try simp only [List.map_toArray, List.map_cons, List.map_nil]); first | done | rfl | (simp only [List.length_drop, List.length_take]; rfl)) ?_; (with_reducible refine (settle_clamp.calls a0 t275 _ A2.out).mono ?_); rintro e w3 ⟨rfl, hb⟩; refine ⟨_, rfl, ?_⟩; have n0_ := Aside0.mk (below_step (by repeat (first | (with_reducible first | exact HB.out | apply below_alloc | apply pw_below_drewN | apply below_drew1) | exact HB.out)) hb); clear HB; have HB := n0_; clear n0_; (try clear hb); (try clear hb2); (try clear hk); (try clear hi)))
  go_loopg [3, 9] k (fun kq v3 v9 w' => ∃ (x3_1 : List (S26)) (x9_1 : Int), v9 = .int .i64 x9_1 ∧ Aside0 (settle_Pairs.l0 kq t275 x3_1 t275 x9_1 = some r) ∧ Aside0 (kq ≤ k) ∧ Aside0 (Kd.R k26 26 w' w.heap.size (fun _ => True) v3 x3_1) ∧ Aside0 (Below w.heap.size w w'))
  case atStart => exact ⟨(([] : List (S26))), (0), (by first | rfl | (simp; done) | (simp [*]; done)), H', ⟨Nat.le_refl _⟩, ⟨by first | exact Kd.R_nil _ _ _ _ _ | exact Kd.N_nil _ _ _ _ _ | exact Kd.V_nil _ _ _ _ _ | exact Kd.Q_nil _ _ _ _ _ | exact Kd.S_nil _ _ _ _ _⟩, ⟨by repeat (first | (with_reducible first | exact HB.out | apply below_alloc | apply pw_below_drewN | apply below_drew1) | exact HB.out)⟩⟩
  case round =>
    clear H'
    try clear c1
    try clear c2
    try clear p2
    obtain ⟨x3_1, x9_1, rfl, HA, HK1, HO_3, HB⟩ := hrel
    cases gk with
    | zero => exact absurd HA.out (by simp [settle_Pairs.l0])
    | succ k1 =>
      have H := HA.out
      clear HA
      simp only [settle_Pairs.l0] at H
      by_cases c4 : x9_1 < t275
      · rw [if_pos c4] at H
        have c4b0 : decide (x9_1 < t275) = true := decide_eq_true c4
        clear c4
        have H' := Aside0.mk H
        clear H
        go_wp2
        go_loopg [3, 13] k1 (fun kq v3 v13 w' => ∃ (x3_2 : List (S26)) (x13_2 : Int), v13 = .int .i64 x13_2 ∧ Aside0 (settle_Pairs.l1 kq t275 x3_2 x9_1 t275 x9_1 t275 x13_2 = some r) ∧ Aside0 (kq ≤ k1) ∧ Aside0 (Kd.R k26 26 w' w.heap.size (fun _ => True) v3 x3_2) ∧ Aside0 (Below w.heap.size w w'))
        case atStart => exact ⟨(x3_1), (0), (by first | rfl | (simp; done) | (simp [*]; done)), H', ⟨Nat.le_refl _⟩, ⟨by (with_reducible repeat (first | apply Kd.R_alloc | apply Kd.R_drewN | apply Kd.R_drew)); exact HO_3.out⟩, ⟨by repeat (first | (with_reducible first | exact HB.out | apply below_alloc | apply pw_below_drewN | apply below_drew1) | exact HB.out)⟩⟩
        case round =>
          clear H'
          try clear c1
          try clear c2
          try clear p2
          try clear c4
          try clear c4b0
          try clear p2
          obtain ⟨x3_2, x13_2, rfl, HA, HK2, HO_3, HB⟩ := hrel
          cases gk with
          | zero => exact absurd HA.out (by simp [settle_Pairs.l1])
          | succ k2 =>
            have H := HA.out
            clear HA
            simp only [settle_Pairs.l1] at H
            by_cases c5 : x13_2 < t275
            · rw [if_pos c5] at H
              have c5b0 : decide (x13_2 < t275) = true := decide_eq_true c5
              clear c5
              by_cases c6 : x9_1 = x13_2
              · rw [if_pos c6] at H
                have c6b0 : (x9_1 == x13_2) = true := beq_iff_eq.mpr c6
                have c6b1 : (x9_1 != x13_2) = false := bne_eq_false_iff_eq.mpr c6
                clear c6
                have H' := Aside0.mk H
                clear H
                go_wp2
                go_roundg k2
                case measure => have := HK1.out; have := HK2.out; omega
                case rel => exact ⟨(x3_2), (wrap64 (x13_2 + 1)), (by first | rfl | (simp; done) | (simp [*]; done)), H', ⟨by have := HK1.out; have := HK2.out; omega⟩, ⟨by (with_reducible repeat (first | apply Kd.R_alloc | apply Kd.R_drewN | apply Kd.R_drew)); exact HO_3.out⟩, ⟨by repeat (first | (with_reducible first | exact HB.out | apply below_alloc | apply pw_below_drewN | apply below_drew1) | exact HB.out)⟩⟩
              · rw [if_neg c6] at H
                have c6b0 : (x9_1 == x13_2) = false := beq_eq_false_iff_ne.mpr c6
                have c6b1 : (x9_1 != x13_2) = true := bne_iff_ne.mpr c6
                by_cases c7 : x3_2.length < 8796093022208
                · rw [if_pos c7] at H
                  have LMc7 := Aside0.mk c7
                  clear c7
                  obtain ⟨y276, hy276⟩ : ∃ y_ : List (S26), y_ = (x3_2 ++ [(⟨x9_1, x13_2⟩ : S26)]) := ⟨_, rfl⟩
                  replace H : (settle_Pairs.l1 k2 t275 y276 x9_1 t275 x9_1 t275 (wrap64 (x13_2 + 1))) = some r := by first | (rw [hy276]; with_reducible exact H) | (have H2_ := (Option.bind_some _ _).symm.trans H; rw [hy276]; with_reducible exact H2_) | (have H2_ := (Option.bind_some _ _).symm.trans H; with_reducible exact H2_) | with_reducible exact H | (rw [hy276]; exact H) | exact H
                  have Ny276 := Aside0.mk hy276
                  clear hy276
                  have H' := Aside0.mk H
                  clear H
                  go_wp2_with (first | ((with_reducible refine gate_builtin (b := .append) (xs := #[.tmp 19, .tmp 23]) rfl ?_); at_builtin; refine Kd.R_append k26 (w0 := w) w.heap.size rfl (.tmp 19) (.tmp 23) 22 26 (.agg #[(.int .i64 0), (.int .i64 0)]) 16 rfl Try.underlying22 info26 rfl (by decide) (by omega) u3 x3_2 (⟨x9_1, x13_2⟩ : S26) [.int .i64 x9_1, .int .i64 x13_2] (fun _ => True) (fun _ => False) rfl rfl ?aP (fun _ hk => hk.elim) ?aF ?aO ?aB ?aS ?aL ?_; (case aP => exact k26_mkM _ _ _ (⟨x9_1, x13_2⟩ : S26)); (case aB => exact (by repeat (first | (with_reducible first | exact HB.out | apply below_alloc | apply pw_below_drewN | apply below_drew1) | exact HB.out))); (case aF => exact (fun _ _ => trivial)); (case aO => exact (by (with_reducible repeat (first | apply Kd.R_alloc | apply Kd.R_drewN | apply Kd.R_drew)); exact HO_3.out)); (case aS => exact (below_size (by repeat (first | (with_reducible first | exact HB.out | apply below_alloc | apply pw_below_drewN | apply below_drew1) | exact HB.out)))); (case aL => have := LMc7.out; omega); intro v277 w8 ho hb hg hat; rw [← Ny276.out] at ho; have n0_ := Aside0.mk (hb); have n1_ := Aside0.mk (ho); clear HB; clear HO_3; have HB := n0_; have HO278 := n1_; clear n0_ n1_; clear ho hb hg hat))
                  go_roundg k2
                  case measure => have := HK1.out; have := HK2.out; omega
                  case rel => exact ⟨(y276), (wrap64 (x13_2 + 1)), (by first | rfl | (simp; done) | (simp [*]; done)), H', ⟨by have := HK1.out; have := HK2.out; omega⟩, ⟨by (with_reducible repeat (first | apply Kd.R_alloc | apply Kd.R_drewN | apply Kd.R_drew)); exact HO278.out⟩, ⟨by repeat (first | (with_reducible first | exact HB.out | apply below_alloc | apply pw_below_drewN | apply below_drew1) | exact HB.out)⟩⟩
                · rw [if_neg c7] at H
                  exact absurd H (by simp)
            · rw [if_neg c5] at H
              have c5b0 : decide (x13_2 < t275) = false := decide_eq_false c5
              clear c5
              have H' := Aside0.mk H
              clear H
              go_wp2
              go_roundg k2
              case measure => have := HK1.out; have := HK2.out; omega
              case rel => exact ⟨(x3_2), (wrap64 (x9_1 + 1)), (by first | rfl | (simp; done) | (simp [*]; done)), H', ⟨by have := HK1.out; have := HK2.out; omega⟩, ⟨by (with_reducible repeat (first | apply Kd.R_alloc | apply Kd.R_drewN | apply Kd.R_drew)); exact HO_3.out⟩, ⟨by repeat (first | (with_reducible first | exact HB.out | apply below_alloc | apply pw_below_drewN | apply below_drew1) | exact HB.out)⟩⟩
      · rw [if_neg c4] at H
        have c4b0 : decide (x9_1 < t275) = false := decide_eq_false c4
        clear c4
        obtain rfl := Option.some.inj H
        go_wp2
        go_ret
        exact ⟨_, by first | rfl | (simp [errW_none, errW_some] <;> rfl) | (simp [*, errW_none, errW_some] <;> rfl), by (with_reducible repeat (first | apply Kd.R_alloc | apply Kd.R_drewN | apply Kd.R_drew)); exact HO_3.out, by repeat (first | (with_reducible first | exact HB.out | apply below_alloc | apply pw_below_drewN | apply below_drew1) | exact HB.out)⟩

/-! ### settle_Rounds: function 17 -/
mutual
def settle_Rounds.l0 : Nat → Int → List (List (S26)) → Int → Option ((List (List (S26))))
  | 0, _, _, _ => none
  | k + 1, x0, x3, x4 => if x4 < x0 then (if 0 ≤ x0 then (if (x0 : Int).toNat ≤ 17592186044416 then ((some (List.replicate (x0 : Int).toNat z26 : List (S26))).bind fun y280 => (settle_Rounds.l1 k x0 x3 x4 y280 (y280.length : Int) 0)) else (none)) else (none)) else (some x3)
def settle_Rounds.l1 : Nat → Int → List (List (S26)) → Int → List (S26) → Int → Int → Option ((List (List (S26))))
  | 0, _, _, _, _, _, _ => none
  | k + 1, x0, x3, x4, x5, x17, x18 => if x18 < x17 then (if x0 = 0 then (none) else (if 0 ≤ x18 then (if x18 < (x5.length : Int) then (settle_Rounds.l1 k x0 x3 x4 (x5.set (x18 : Int).toNat (⟨x18, Int.tmod (wrap64 (x18 + x4)) x0⟩ : S26)) x17 (wrap64 (x18 + 1))) else (none)) else (none))) else (if x3.length < 5864062014805 then (settle_Rounds.l0 k x0 (x3 ++ [x5]) (wrap64 (x4 * 2))) else (none))
end
def settle_Rounds.f (k : Nat) (a0 : Int) : Option ((List (List (S26)))) := (settle_clamp.f a0).bind fun t279 => (settle_Rounds.l0 k t279 ([] : List (List (S26))) 1)
theorem settle_Rounds.mono_l : ∀ k, (∀ y0 y1 y2, LeO (settle_Rounds.l0 k y0 y1 y2) (settle_Rounds.l0 (k + 1) y0 y1 y2)) ∧ (∀ y0 y1 y2 y3 y4 y5, LeO (settle_Rounds.l1 k y0 y1 y2 y3 y4 y5) (settle_Rounds.l1 (k + 1) y0 y1 y2 y3 y4 y5))
  | 0 => ⟨fun _ _ _ r h => by simp [settle_Rounds.l0] at h, fun _ _ _ _ _ _ r h => by simp [settle_Rounds.l1] at h⟩
  | k + 1 => by
    obtain ⟨ih0, ih1⟩ := settle_Rounds.mono_l k
    refine ⟨?_, ?_⟩
    · intro y0 y1 y2
      unfold settle_Rounds.l0
      repeat' first
      | (with_reducible exact ih0 _ _ _)
      | (with_reducible exact ih1 _ _ _ _ _ _)
      | (with_reducible exact LeO.refl _)
      | (with_reducible exact LeO.none _)
      | (with_reducible refine LeO.ite ?_ ?_)
      | (with_reducible refine LeO.bind ?_ (fun _ => ?_))
      | exact ih0 _ _ _
      | exact ih1 _ _ _ _ _ _
      | exact LeO.none _
      | refine LeO.ite ?_ ?_
      | refine LeO.bind ?_ (fun _ => ?_)
    · intro y0 y1 y2 y3 y4 y5
      unfold settle_Rounds.l1
      repeat' first
      | (with_reducible exact ih0 _ _ _)
      | (with_reducible exact ih1 _ _ _ _ _ _)
      | (with_reducible exact LeO.refl _)
      | (with_reducible exact LeO.none _)
      | (with_reducible refine LeO.ite ?_ ?_)
      | (with_reducible refine LeO.bind ?_ (fun _ => ?_))
      | exact ih0 _ _ _
      | exact ih1 _ _ _ _ _ _
      | exact LeO.none _
      | refine LeO.ite ?_ ?_
      | refine LeO.bind ?_ (fun _ => ?_)
theorem settle_Rounds.mono : ∀ a0 k, LeO (settle_Rounds.f k a0) (settle_Rounds.f (k + 1) a0) := by
  intro a0 k
  obtain ⟨ih0, ih1⟩ := settle_Rounds.mono_l k
  unfold settle_Rounds.f
  repeat' first
      | (with_reducible exact ih0 _ _ _)
      | (with_reducible exact ih1 _ _ _ _ _ _)
      | (with_reducible exact LeO.refl _)
      | (with_reducible exact LeO.none _)
      | (with_reducible refine LeO.ite ?_ ?_)
      | (with_reducible refine LeO.bind ?_ (fun _ => ?_))
      | exact ih0 _ _ _
      | exact ih1 _ _ _ _ _ _
      | exact LeO.none _
      | refine LeO.ite ?_ ?_
      | refine LeO.bind ?_ (fun _ => ?_)
set_option maxHeartbeats 8000000 in
set_option maxRecDepth 100000 in
theorem settle_Rounds.calls (k : Nat) (a0 : Int) (r : List (List (S26))) (w : World) (h : settle_Rounds.f k a0 = some r) :
    Calls Try.prog 17 #[.int .i64 a0] w fun e w' => ∃ v0_ : Value, e = .returned (v0_) ∧ Kd.S (Kd.slice 26 k26) 22 w' w.heap.size (fun _ => True) v0_ r ∧ Below w.heap.size w w' := by
  have hu26 := Try.underlying26
  have HB := Aside0.mk (Below.refl w.heap.size w)
  have H : ((settle_clamp.f a0).bind fun t279 => (settle_Rounds.l0 k t279 ([] : List (List (S26))) 1)) = some r := h
  clear h
  replace H := Option.bind_eq_some_iff.mp H
  obtain ⟨t279, A20, H⟩ := H
  replace H : (settle_Rounds.l0 k t279 ([] : List (List (S26))) 1) = some r := H
  have A2 := Aside0.mk A20
  clear A20
  have H' := Aside0.mk H
  clear H
  go_enter Try.func17, Try.ntmps17
  go_wp2_with (first | ((with_reducible refine gate_callee (f := 29) rfl ?_); refine goesL_ (some 8) rfl rfl Try.func29 (by kernel_rfl) rfl #[.int .i64 a0] rfl (by (try simp only [List.map_toArray, List.map_cons, List.map_nil]); first | done | rfl | (simp only [List.length_drop, List.length_take]; rfl)) ?_; (with_reducible refine (settle_clamp.calls a0 t279 _ A2.out).mono ?_); rintro e w3 ⟨rfl, hb⟩; refine ⟨_, rfl, ?_⟩; have n0_ := Aside0.mk (below_step (by repeat (first | (with_reducible first | exact HB.out | apply below_alloc | apply pw_below_drewN | apply below_drew1) | exact HB.out)) hb); clear HB; have HB := n0_; clear n0_; (try clear hb); (try clear hb2); (try clear hk); (try clear hi)))
  go_loopg [3, 4] k (fun kq v3 v4 w' => ∃ (x3_1 : List (List (S26))) (x4_1 : Int), v4 = .int .i64 x4_1 ∧ Aside0 (settle_Rounds.l0 kq t279 x3_1 x4_1 = some r) ∧ Aside0 (kq ≤ k) ∧ Aside0 (Kd.S (Kd.slice 26 k26) 22 w' w.heap.size (fun _ => True) v3 x3_1) ∧ Aside0 (Below w.heap.size w w'))
  case atStart => exact ⟨(([] : List (List (S26)))), (1), (by first | rfl | (simp; done) | (simp [*]; done)), H', ⟨Nat.le_refl _⟩, ⟨by first | exact Kd.S_nil _ _ _ _ _ | exact Kd.N_nil _ _ _ _ _ | exact Kd.V_nil _ _ _ _ _ | exact Kd.Q_nil _ _ _ _ _ | exact Kd.R_nil _ _ _ _ _⟩, ⟨by repeat (first | (with_reducible first | exact HB.out | apply below_alloc | apply pw_below_drewN | apply below_drew1) | exact HB.out)⟩⟩
  case round =>
    clear H'
    try clear c1
    try clear c2
    try clear p2
    obtain ⟨x3_1, x4_1, rfl, HA, HK1, HO_3, HB⟩ := hrel
    cases gk with
    | zero => exact absurd HA.out (by simp [settle_Rounds.l0])
    | succ k1 =>
      have H := HA.out
      clear HA
      simp only [settle_Rounds.l0] at H
      by_cases c4 : x4_1 < t279
      · rw [if_pos c4] at H
        have c4b0 : decide (x4_1 < t279) = true := decide_eq_true c4
        clear c4
        by_cases c5 : 0 ≤ t279
        · rw [if_pos c5] at H
          have c5b0 := eq_true c5
          have c5b1 : decide (0 ≤ t279) = true := decide_eq_true c5
          clear c5
          by_cases c6 : (t279 : Int).toNat ≤ 17592186044416
          · rw [if_pos c6] at H
            have c6b0 := eq_true c6
            have c6b1 : decide ((t279 : Int).toNat ≤ 17592186044416) = true := decide_eq_true c6
            clear c6
            obtain ⟨y280, hy280⟩ : ∃ y_ : List (S26), y_ = (List.replicate (t279 : Int).toNat z26) := ⟨_, rfl⟩
            replace H : (settle_Rounds.l1 k1 t279 x3_1 x4_1 y280 (y280.length : Int) 0) = some r := by first | (rw [hy280]; with_reducible exact H) | (have H2_ := (Option.bind_some _ _).symm.trans H; rw [hy280]; with_reducible exact H2_) | (have H2_ := (Option.bind_some _ _).symm.trans H; with_reducible exact H2_) | with_reducible exact H | (rw [hy280]; exact H) | exact H
            have Ny280 := Aside0.mk hy280
            clear hy280
            have H' := Aside0.mk H
            clear H
            go_wp2_with (first | ((with_reducible refine gate_dst (N := 15) rfl ?_); refine Kd.R_make k26 _ 26 rfl (N := 15) rfl 22 _ _ rfl t279 rfl rfl Try.underlying22 (.agg #[(.int .i64 0), (.int .i64 0)]) 16 info26 rfl (by decide) (by omega) z26 (ok := fun _ => True) (okp := fun _ => True) (k26_mkM _ _ _ z26 ) (fun _ hk => hk) trivial (of_decide_eq_true (by first | (with_reducible assumption) | assumption)) (Nat.le_trans (Nat.mul_le_mul_right _ (of_decide_eq_true (by first | (with_reducible assumption) | assumption) : t279.toNat ≤ 17592186044416)) (by omega)) (Below.refl _ _) (Nat.le_refl _) ?_; intro v281 w7 ho8 hb hg_ hnew_; clear hg_ hnew_; (first | rw [← Ny280.out] at ho8 | (simp only [Int.reduceToNat] at ho8; rw [← Ny280.out] at ho8)); have n0_ := Aside0.mk (Kd.S_elder' (by (with_reducible repeat (first | apply Kd.S_alloc | apply Kd.S_drewN | apply Kd.S_drew)); exact HO_3.out) (Kd.R_base ho8) hb); have n1_ := Aside0.mk (Kd.R_lower ho8 (below_size (by repeat (first | (with_reducible first | exact HB.out | apply below_alloc | apply pw_below_drewN | apply below_drew1) | exact HB.out)))); have n2_ := Aside0.mk (below_step (by repeat (first | (with_reducible first | exact HB.out | apply below_alloc | apply pw_below_drewN | apply below_drew1) | exact HB.out)) hb); clear HO_3; clear HB; have HO_3 := n0_; have HO282 := n1_; have HB := n2_; clear n0_ n1_ n2_; clear hb ho8; obtain ⟨Ao9, co9, eo9⟩ := Kd.R_slice HO282.out; subst eo9))
            go_loopg [18] k1 (fun kq v18 w' => ∃ (x5_2 : List (S26)) (x18_2 : Int), v18 = .int .i64 x18_2 ∧ Aside0 (settle_Rounds.l1 kq t279 x3_1 x4_1 x5_2 (y280.length : Int) x18_2 = some r) ∧ Aside0 (kq ≤ k1) ∧ Aside0 (Kd.S (Kd.slice 26 k26) 22 w' w.heap.size (fun k_ => some k_ ≠ ((.slice Ao9 y280.length co9) : Value).ownBlock) u3 x3_1) ∧ Aside0 (Kd.R k26 26 w' w.heap.size (fun _ => True) (.slice Ao9 y280.length co9) x5_2) ∧ Aside0 (Below w.heap.size w w'))
            case atStart => exact ⟨(y280), (0), (by first | rfl | (simp; done) | (simp [*]; done)), H', ⟨Nat.le_refl _⟩, ⟨by (with_reducible repeat (first | apply Kd.S_alloc | apply Kd.S_drewN | apply Kd.S_drew)); exact Kd.S_mono HO_3.out (fun _ hk => hk.2)⟩, ⟨by (with_reducible repeat (first | apply Kd.R_alloc | apply Kd.R_drewN | apply Kd.R_drew)); exact HO282.out⟩, ⟨by repeat (first | (with_reducible first | exact HB.out | apply below_alloc | apply pw_below_drewN | apply below_drew1) | exact HB.out)⟩⟩
            case round =>
              clear H'
              try clear c1
              try clear c2
              try clear p2
              try clear c4
              try clear c4b0
              try clear c5
              try clear c5b0
              try clear c5b1
              try clear c6
              try clear c6b0
              try clear c6b1
              try clear p2
              obtain ⟨x5_2, x18_2, rfl, HA, HK2, HO_3, HO_5, HB⟩ := hrel
              have hl5_2 := (Kd.R_reads' HO_5.out).1
              rw [hl5_2] at HO_5
              (try simp only [hl5_2])
              (try simp only [hl5_2] at HO_3)
              cases gk with
              | zero => exact absurd HA.out (by simp [settle_Rounds.l1])
              | succ k2 =>
                have H := HA.out
                clear HA
                simp only [settle_Rounds.l1] at H
                by_cases c10 : x18_2 < (y280.length : Int)
                · rw [if_pos c10] at H
                  have c10b0 : decide (x18_2 < (y280.length : Int)) = true := decide_eq_true c10
                  (try rw [hl5_2] at c10b0)
                  clear c10
                  by_cases c11 : t279 = 0
                  · rw [if_pos c11] at H
                    exact absurd H (by simp)
                  · rw [if_neg c11] at H
                    have c11b0 : (t279 == 0) = false := beq_eq_false_iff_ne.mpr c11
                    have c11b1 : (t279 != 0) = true := bne_iff_ne.mpr c11
                    by_cases c12 : 0 ≤ x18_2
                    · rw [if_pos c12] at H
                      have c12b0 : decide (0 ≤ x18_2) = true := decide_eq_true c12
                      clear c12
                      by_cases c13 : x18_2 < (x5_2.length : Int)
                      · rw [if_pos c13] at H
                        have c13b0 : decide (x18_2 < (x5_2.length : Int)) = true := decide_eq_true c13
                        (try rw [hl5_2] at c13b0)
                        clear c13
                        obtain ⟨y283, hy283⟩ : ∃ y_ : List (S26), y_ = (x5_2.set (x18_2 : Int).toNat (⟨x18_2, Int.tmod (wrap64 (x18_2 + x4_1)) t279⟩ : S26)) := ⟨_, rfl⟩
                        replace H : (settle_Rounds.l1 k2 t279 x3_1 x4_1 y283 (y280.length : Int) (wrap64 (x18_2 + 1))) = some r := by first | (rw [hy283]; with_reducible exact H) | (have H2_ := (Option.bind_some _ _).symm.trans H; rw [hy283]; with_reducible exact H2_) | (have H2_ := (Option.bind_some _ _).symm.trans H; with_reducible exact H2_) | with_reducible exact H | (rw [hy283]; exact H) | exact H
                        have Ny283 := Aside0.mk hy283
                        clear hy283
                        have H' := Aside0.mk H
                        clear H
                        have p14 : 0 ≤ (x18_2 : Int) := of_decide_eq_true (by first | (with_reducible assumption) | assumption)
                        have q14 : (x18_2 : Int) < ((x5_2.length : Int) : Int) := of_decide_eq_true (by first | (with_reducible assumption) | assumption)
                        obtain ⟨go14, co14, eo14, gb14, gl14, cl14, HG14⟩ := Kd.R_form HO_5.out (by omega)
                        (first | cases eo14 | (injection eo14 with ea_ en_ ec_; (first | subst ea_ | (injection ea_ with ea_; subst ea_)); subst ec_; clear en_))
                        have GB14 := Aside0.mk gb14
                        have GG14 := Aside0.mk HG14
                        clear gb14 gl14 HG14
                        obtain ⟨ce14, hcl14, hM14, hcc14, hfr14⟩ := Kd.R_elem HO_5.out z26 (x18_2 : Int) p14 q14
                        obtain rfl := k26_openM hM14
                        have hx14_0 : wr.cell? ⟨go14, (x18_2 : Int).toNat * 2, none⟩ = some (.int .i64 ((rd_T26 x5_2 x18_2).f0)) := hcc14 0 _ rfl
                        have hx14_1 : wr.cell? ⟨go14, (x18_2 : Int).toNat * 2 + 1, none⟩ = some (.int .i64 ((rd_T26 x5_2 x18_2).f1)) := hcc14 1 _ rfl
                        have hf14_0 : wr.frozen? ⟨go14, (x18_2 : Int).toNat * 2, none⟩ = false := hfr14 0
                        have hf14_1 : wr.frozen? ⟨go14, (x18_2 : Int).toNat * 2 + 1, none⟩ = false := hfr14 1
                        clear hcl14 hcc14 hfr14 hM14
                        replace p14 := eq_true p14
                        replace q14 := eq_true q14
                        have HX15 := Aside0.mk (show Kd.R k26 26 wr w.heap.size (fun _ => True) (.slice (some ⟨go14, 0, none⟩) x5_2.length co9) x5_2 from (by (with_reducible repeat (first | apply Kd.R_alloc | apply Kd.R_drewN | apply Kd.R_drew)); exact HO_5.out))
                        obtain ⟨ce15, hcl15, hM15, hcc15, hfr15⟩ := Kd.R_elem HX15.out z26 (x18_2 : Int) (of_decide_eq_true (by first | (with_reducible assumption) | assumption)) (by have h_ : (x18_2 : Int) < ((x5_2.length : Int) : Int) := of_decide_eq_true (by first | (with_reducible assumption) | assumption); first | exact h_ | (have e_ := (Kd.R_reads' HO_5.out).1; omega) | simpa using h_)
                        obtain rfl := k26_openM hM15
                        have HP15 := Kd.R_seg HX15.out (x18_2 : Int) (of_decide_eq_true (by first | (with_reducible assumption) | assumption)) (by have h_ : (x18_2 : Int) < ((x5_2.length : Int) : Int) := of_decide_eq_true (by first | (with_reducible assumption) | assumption); first | exact h_ | (have e_ := (Kd.R_reads' HO_5.out).1; omega) | simpa using h_) (seg := [.int .i64 x18_2, .int .i64 (Int.tmod (wrap64 (x18_2 + x4_1)) t279)]) (j := 0) hcl15 hcc15 (show 2 ≤ 2 from by decide) (x' := (⟨x18_2, Int.tmod (wrap64 (x18_2 + x4_1)) t279⟩ : S26)) (k26_mkM _ _ _ (⟨x18_2, Int.tmod (wrap64 (x18_2 + x4_1)) t279⟩ : S26) ) (fun _ hk => hk)
                        have hx15_0 := hcc15 0 _ rfl
                        (try simp only [show (k26).sz = 2 from rfl, Nat.mul_one, Nat.add_zero] at hx15_0)
                        have hf15_0 := hfr15 0
                        (try simp only [show (k26).sz = 2 from rfl, Nat.mul_one, Nat.add_zero] at hf15_0)
                        have hx15_1 := hcc15 1 _ rfl
                        (try simp only [show (k26).sz = 2 from rfl, Nat.mul_one, Nat.add_zero] at hx15_1)
                        have hf15_1 := hfr15 1
                        (try simp only [show (k26).sz = 2 from rfl, Nat.mul_one, Nat.add_zero] at hf15_1)
                        clear hcl15 hcc15 hfr15 hM15
                        go_wp2_with (first | ((with_reducible refine gate_store (t := 26) (p := 30) rfl ?_); refine store_event (t := 26) (p := 30) (v := ?vo_w16) (w1 := ((wr.setCell ⟨go14, (x18_2 : Int).toNat * 2, none⟩ (.int .i64 x18_2)).setCell ⟨go14, (x18_2 : Int).toNat * 2 + 1, none⟩ (.int .i64 (Int.tmod (wrap64 (x18_2 + x4_1)) t279)))) ?hg ?ho ?hn ?hr ?_; (case ho => rfl); (case hg => rfl); (case hn => rfl); (case hr => first | (go_simp; done) | (go_simp; rfl)); intro w16 hw; have hg : wr.grownBy w16 (some go14) := (by rw [hw]; exact HP15.2); have hp_ : Kd.R k26 26 w16 w.heap.size (fun _ => True) (.slice (some ⟨go14, 0, none⟩) x5_2.length co9) y283 := (by rw [hw, Ny283.out]; exact HP15.1); clear HP15; have n0_ := Aside0.mk (Kd.S_after (v := (.slice (some ⟨go14, 0, none⟩) x5_2.length co9)) (v1 := (.slice (some ⟨go14, 0, none⟩) x5_2.length co9)) (ok := (fun _ => True)) (by (with_reducible repeat (first | apply Kd.S_alloc | apply Kd.S_drewN | apply Kd.S_drew)); exact Kd.S_mono HO_3.out (fun _ hk => ⟨trivial, hk⟩)) hg (.inl rfl)); have n1_ := Aside0.mk (hp_); have n2_ := Aside0.mk ((by rw [hw]; exact below_set (below_set (HB.out) GB14.out) GB14.out : Below w.heap.size w w16)); clear HO_3; clear HO_5; clear HB; have HO_3 := n0_; have HO_5 := n1_; have HB := n2_; clear n0_ n1_ n2_; clear hg hw hp_))
                        (try simp only [← hl5_2])
                        go_roundg k2
                        case measure => have := HK1.out; have := HK2.out; omega
                        case rel => exact ⟨(y283), (wrap64 (x18_2 + 1)), (by first | rfl | (simp; done) | (simp [*]; done)), H', ⟨by have := HK1.out; have := HK2.out; omega⟩, ⟨by (try simp only [hl5_2]); (with_reducible repeat (first | apply Kd.S_alloc | apply Kd.S_drewN | apply Kd.S_drew)); exact Kd.S_mono HO_3.out (fun _ hk => hk.2)⟩, ⟨by (try simp only [hl5_2]); (with_reducible repeat (first | apply Kd.R_alloc | apply Kd.R_drewN | apply Kd.R_drew)); exact HO_5.out⟩, ⟨by repeat (first | (with_reducible first | exact HB.out | apply below_alloc | apply pw_below_drewN | apply below_drew1) | exact HB.out)⟩⟩
                      · rw [if_neg c13] at H
                        exact absurd H (by simp)
                    · rw [if_neg c12] at H
                      exact absurd H (by simp)
                · rw [if_neg c10] at H
                  have c10b0 : decide (x18_2 < (y280.length : Int)) = false := decide_eq_false c10
                  (try rw [hl5_2] at c10b0)
                  clear c10
                  by_cases c17 : x3_1.length < 5864062014805
                  · rw [if_pos c17] at H
                    have LMc17 := Aside0.mk c17
                    clear c17
                    obtain ⟨y284, hy284⟩ : ∃ y_ : List (List (S26)), y_ = (x3_1 ++ [x5_2]) := ⟨_, rfl⟩
                    replace H : (settle_Rounds.l0 k2 t279 y284 (wrap64 (x4_1 * 2))) = some r := by first | (rw [hy284]; with_reducible exact H) | (have H2_ := (Option.bind_some _ _).symm.trans H; rw [hy284]; with_reducible exact H2_) | (have H2_ := (Option.bind_some _ _).symm.trans H; with_reducible exact H2_) | with_reducible exact H | (rw [hy284]; exact H) | exact H
                    have Ny284 := Aside0.mk hy284
                    clear hy284
                    have H' := Aside0.mk H
                    clear H
                    go_wp2_with (first | ((with_reducible refine gate_builtin (b := .append) (xs := #[.tmp 32, .tmp 34]) rfl ?_); at_builtin; refine Kd.S_append (Kd.slice 26 k26) (w0 := w) w.heap.size rfl (.tmp 32) (.tmp 34) 38 22 (.slice none 0 0) 24 rfl Try.underlying38 info22 rfl (by decide) (by omega) u3 x3_1 x5_2 [.slice Ao9 x5_2.length co9] (fun _ => True) (fun k_ => some k_ = (.slice Ao9 x5_2.length co9 : Value).ownBlock) rfl rfl ?aP (fun k_ hk_ => ((Kd.R_mono (ok' := fun k_ => ((fun _ => True)) k_ ∧ some k_ ≠ (u3 : Value).ownBlock) (Kd.R_apart' (HO_5.out) (Kd.S_typed HO_3.out) (by decide)) (fun k_ hk => ⟨trivial, hk.2⟩))).1 k_ hk_.symm) ?aF ?aO ?aB ?aS ?aL ?_; (case aP => exact Kd.M_row (Kd.R_mono (Kd.R_tight rfl (Kd.R_mono (ok' := fun k_ => ((fun _ => True)) k_ ∧ some k_ ≠ (u3 : Value).ownBlock) (Kd.R_apart' (HO_5.out) (Kd.S_typed HO_3.out) (by decide)) (fun k_ hk => ⟨trivial, hk.2⟩))) (fun _ h_ => h_))); (case aB => exact (by repeat (first | (with_reducible first | exact HB.out | apply below_alloc | apply pw_below_drewN | apply below_drew1) | exact HB.out))); (case aF => exact (fun _ _ => trivial)); (case aO => exact (by (with_reducible repeat (first | apply Kd.S_alloc | apply Kd.S_drewN | apply Kd.S_drew)); exact Kd.S_mono HO_3.out (fun k_ hk => ⟨trivial, fun e_ => hk e_⟩))); (case aS => exact (below_size (by repeat (first | (with_reducible first | exact HB.out | apply below_alloc | apply pw_below_drewN | apply below_drew1) | exact HB.out)))); (case aL => have := LMc17.out; omega); intro v285 w18 ho hb hg hat; rw [← Ny284.out] at ho; have n0_ := Aside0.mk (hb); have n1_ := Aside0.mk (ho); clear HB; clear HO_3; clear HO_5; have HB := n0_; have HO286 := n1_; clear n0_ n1_; clear ho hb hg hat))
                    (try simp only [← hl5_2])
                    go_roundg k2
                    case measure => have := HK1.out; have := HK2.out; omega
                    case rel => exact ⟨(y284), (wrap64 (x4_1 * 2)), (by first | rfl | (simp; done) | (simp [*]; done)), H', ⟨by have := HK1.out; have := HK2.out; omega⟩, ⟨by (try simp only [hl5_2]); (with_reducible repeat (first | apply Kd.S_alloc | apply Kd.S_drewN | apply Kd.S_drew)); exact HO286.out⟩, ⟨by repeat (first | (with_reducible first | exact HB.out | apply below_alloc | apply pw_below_drewN | apply below_drew1) | exact HB.out)⟩⟩
                  · rw [if_neg c17] at H
                    exact absurd H (by simp)
          · rw [if_neg c6] at H
            exact absurd H (by simp)
        · rw [if_neg c5] at H
          exact absurd H (by simp)
      · rw [if_neg c4] at H
        have c4b0 : decide (x4_1 < t279) = false := decide_eq_false c4
        clear c4
        obtain rfl := Option.some.inj H
        go_wp2
        go_ret
        exact ⟨_, by first | rfl | (simp [errW_none, errW_some] <;> rfl) | (simp [*, errW_none, errW_some] <;> rfl), by (with_reducible repeat (first | apply Kd.S_alloc | apply Kd.S_drewN | apply Kd.S_drew)); exact HO_3.out, by repeat (first | (with_reducible first | exact HB.out | apply below_alloc | apply pw_below_drewN | apply below_drew1) | exact HB.out)⟩

end Go.Proofs.Ythpdemfehkoniaa.PSet
