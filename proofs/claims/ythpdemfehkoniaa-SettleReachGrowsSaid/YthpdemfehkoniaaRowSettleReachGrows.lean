/- SettleReachGrows: for every number, all pairs and one pair more. No condition. -/
import Derived.Test.YthpdemfehkoniaaRows
import Derived.Test.YthpdemfehkoniaaSetGrows
import Derived.Test.YthpdemfehkoniaaArgs
import Derived.WalkKit
import Derived.ProofKit
import Derived.OpenShut
import Derived.ShutString
import Derived.ChangeOld
import Derived.Below
import Derived.SizedLaws
import Derived.Lib.SmallJoins
namespace Go.Proofs.Ythpdemfehkoniaa.settleReachGrows
open Go.ChangeShapes Go.WideShapes Go.ChangeAt Go.RowKit
open Go.ChangeMaps (open_string shut_string)
set_option linter.unusedVariables false
theorem own : ownKnob Try.prog.godebug = none := by kernel_rfl
theorem laidOut : laidOutB Try.prog = true := by kernel_rfl
set_option maxRecDepth 100000 in
theorem lifted (os : Os) (started : os.Started) (H : Type) (enc : TypeId × Value → H) :
    ReturnsInHanded {} Try.checked os 7 .any (Rows.settleReachGrowsSpec.pre6 enc Try.prog Try.f7 Rows.settleReachGrowsRow.domain false) (Rows.settleReachGrowsSpec.post enc Try.prog Try.f7 false true false false) := by
  refine returnsInHanded_of_change_sized (C := Try.checked) own started (by kernel_rfl) Try.func7
    (ChangeSpec.witness6 (enc := enc) (C := Try.checked) false ⟨#[], #[.int .i64 0, .slice none 0 0, .agg #[.int .i64 0, .int .i64 0]], []⟩ 8 (by kernel_rfl) (by kernel_rfl) (by kernel_rfl) (by kernel_rfl)) ?_
  intro W base args ds gs before hval1 hW hcnd hsz0 _
  have hsz : (DataW.weightsEach Try.prog (Try.f7.params.toList ++ Rows.settleReachGrowsSpec.plain.varTypes Try.prog) (ds ++ gs)).all (· ≤ reachBytes) = true := hsz0
  have hval0 : ∀ (j : Nat) t v, Try.f7.params[j]? = some t → args[j]? = some v → Value.okWide Try.prog W .any base t v := hval1
  have hval := hval0
  have hW' := hW
  obtain ⟨p, q, hA0, hV, rfl, hfz, hnd⟩ := hW
  have hA : DataW.TrodAll enc Try.prog W 0 (fun _ => true) true Try.f7.params.toList args.toList ds p := hA0
  rw [Try.params7] at hA hval hsz
  obtain ⟨v0, vs0, d0, ds0, p0, q0, hargs, rfl, rfl, h0, r0⟩ := trodAll_cons hA
  obtain ⟨v1, vs1, d1, ds1, p1, q1, rfl, rfl, rfl, h1, r1⟩ := trodAll_cons r0
  obtain ⟨v2, vs2, d2, ds2, p2, q2, rfl, rfl, rfl, h2, r2⟩ := trodAll_cons r1
  obtain ⟨rfl, rfl, rfl⟩ := trodAll_nil r2
  obtain rfl : args = #[v0, v1, v2] := by cases args; simp_all
  obtain ⟨rfl, rfl⟩ := trodVars_none hV
  obtain ⟨a0, rfl, rfl, rfl, w0⟩ := open_int Try.underlying3 (hval 0 3 v0 rfl rfl) h0
  obtain ⟨a1, len1, cap1, rfl⟩ := okWide_slice Try.underlying22 (hval 1 22 v1 rfl rfl)
  have k1 := h1
  have lt1 : ∀ x ∈ p1, x.block < W.heap.size := by obtain ⟨m, hm⟩ := k1; exact DataW.trod_lt m _ _ _ hm
  obtain ⟨z1, rfl, hlc01, hC01, hd1⟩ := Args.pairs_read Try.underlying22 Try.underlying26 (by kernel_rfl) rfl rfl (by kernel_rfl) (by kernel_rfl) Try.underlying3 Try.underlying3 h1
  have hn01 := Args.sized_pairs hsz (j := 1) rfl rfl Try.underlying22 (B := 16) (by kernel_rfl) hd1
  have hC1 : Go.Proofs.YthpdemfehkoniaaW.PrintWords.Kd.C PSet.k26 W a1 _ _ := Args.C_iso (f := fun x : PSet.S26 => (x.f0, x.f1)) (g := fun p : Int × Int => (⟨p.1, p.2⟩ : PSet.S26)) (fun _ => rfl) hC01
  obtain ⟨l1, el1⟩ : ∃ l, l = z1.map (fun p : Int × Int => (⟨p.1, p.2⟩ : PSet.S26)) := ⟨_, rfl⟩
  have ln1 : z1.length = l1.length := by rw [el1, List.length_map]
  rw [← el1] at hC1
  rw [ln1] at hlc01 hn01 hW' k1 ⊢
  have hlc1 := hlc01
  have hn1 := hn01
  obtain ⟨xc2, xd2, y2, z2, m2, rfl, rfl, rfl, hy2, hz2⟩ := Joins.open_agg2 Try.underlying26 (by kernel_rfl) (by kernel_rfl) (hval 2 26 v2 rfl rfl) h2
  obtain ⟨f2, ey2, rfl, wa2⟩ := DataW.trod_int Try.underlying3 hy2
  obtain ⟨g2, ez2, rfl, wb2⟩ := DataW.trod_int Try.underlying3 hz2
  simp at ey2 ez2
  subst ey2 ez2
  have sr2 : ∀ (W' : World) (sp : Nat → Bool), DataW.Trod enc Try.prog W' 0 sp true 26 (.agg #[.int .i64 f2, .int .i64 g2]) (.agg [.lit (.int .i64 f2), .lit (.int .i64 g2)]) [] := fun W' sp => Joins.shut_agg2 (y0 := (.lit (.int .i64 f2), [])) (y1 := (.lit (.int .i64 g2), [])) Try.underlying26 (by kernel_rfl) (by kernel_rfl) ⟨1, by simp [DataW.trod, Try.underlying3, wa2]⟩ ⟨1, by simp [DataW.trod, Try.underlying3, wb2]⟩
  obtain ⟨n, h1n, hn16, hc, _⟩ := PSet.clamp16 a0
  have hw := PSet.SettleReachGrows_calls a0 n h1n hn16 hc a1 cap1 l1 ⟨f2, g2⟩ W hC1 hlc1 hn1
  refine hw.mono fun e W' ⟨he, bel⟩ => ?_
  subst he
  exact ⟨_, rfl, _, _, _, [], _, [], hW', trodAll_mk1 (shut_bool Try.underlying4 _), (trodAll_cons_mk (shut_int Try.underlying3 w0) (trodAll_cons_mk (Below.trod laidOut (by kernel_rfl) (of_decide_eq_true (by kernel_rfl)) k1 bel lt1) (trodAll_cons_mk (sr2 _ _) trodAll_mk0))), rfl, bel.frame _, fun h => by cases h⟩
theorem over : Rows.settleReachGrowsRow.holds Try.pinned (OpenSpec.ofChange Rows.settleReachGrowsSpec) :=
  OpenClaim.holds_of_wide 7 Try.f7 rfl rfl rfl rfl rfl rfl rfl ⟨rfl, rfl, rfl, rfl, rfl⟩ rfl rfl rfl rfl rfl (by kernel_rfl) Try.func7 (by kernel_rfl)
    (of_decide_eq_true (by kernel_rfl)) (by unfold Func.isWrapper; first | (rw [if_pos (by decide +kernel)]; kernel_rfl) | (rw [if_neg (by decide +kernel)]; exact ⟨rfl, rfl⟩))
    (fun os started H enc _ => lifted os started H enc)
theorem proved : Rows.SettleReachGrowsSaid := over
#print axioms proved
end Go.Proofs.Ythpdemfehkoniaa.settleReachGrows
namespace Go.Proofs.Ythpdemfehkoniaa
/-- The row, under a short name, for the claim. -/
theorem settleReachGrows_holds : Rows.SettleReachGrowsSaid := settleReachGrows.proved
end Go.Proofs.Ythpdemfehkoniaa
