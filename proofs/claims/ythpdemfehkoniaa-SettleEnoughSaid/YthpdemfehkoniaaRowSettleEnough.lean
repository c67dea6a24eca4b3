/- SettleEnough: for every number, all pairs and all picks: Enough is the document's; all pairs in any order, and the rounds one behind the other, each in any order, are enough; all pairs but those to one replica are not. No condition. -/
import Derived.Test.YthpdemfehkoniaaRows
import Derived.Test.YthpdemfehkoniaaSetEnough
import Derived.Test.YthpdemfehkoniaaArgs
import Derived.WalkKit
import Derived.ProofKit
import Derived.OpenShut
import Derived.ShutString
import Derived.ChangeOld
import Derived.Below
import Derived.SizedLaws
namespace Go.Proofs.Ythpdemfehkoniaa.settleEnough
open Go.ChangeShapes Go.WideShapes Go.ChangeAt Go.RowKit
open Go.ChangeMaps (open_string shut_string)
set_option linter.unusedVariables false
theorem own : ownKnob Try.prog.godebug = none := by kernel_rfl
theorem laidOut : laidOutB Try.prog = true := by kernel_rfl
set_option maxRecDepth 100000 in
theorem lifted (os : Os) (started : os.Started) (H : Type) (enc : TypeId × Value → H) :
    ReturnsInHanded {} Try.checked os 9 .any (Rows.settleEnoughSpec.pre6 enc Try.prog Try.f9 Rows.settleEnoughRow.domain false) (Rows.settleEnoughSpec.post enc Try.prog Try.f9 false true false false) := by
  refine returnsInHanded_of_change_sized (C := Try.checked) own started (by kernel_rfl) Try.func9
    (ChangeSpec.witness6 (enc := enc) (C := Try.checked) false ⟨#[], #[.int .i64 0, .slice none 0 0, .slice none 0 0], []⟩ 8 (by kernel_rfl) (by kernel_rfl) (by kernel_rfl) (by kernel_rfl)) ?_
  intro W base args ds gs before hval1 hW hcnd hsz0 _
  have hsz : (DataW.weightsEach Try.prog (Try.f9.params.toList ++ Rows.settleEnoughSpec.plain.varTypes Try.prog) (ds ++ gs)).all (· ≤ reachBytes) = true := hsz0
  have hval0 : ∀ (j : Nat) t v, Try.f9.params[j]? = some t → args[j]? = some v → Value.okWide Try.prog W .any base t v := hval1
  have hval := hval0
  have hW' := hW
  obtain ⟨p, q, hA0, hV, rfl, hfz, hnd⟩ := hW
  have hA : DataW.TrodAll enc Try.prog W 0 (fun _ => true) true Try.f9.params.toList args.toList ds p := hA0
  rw [Try.params9] at hA hval hsz
  obtain ⟨v0, vs0, d0, ds0, p0, q0, hargs, rfl, rfl, h0, r0⟩ := trodAll_cons hA
  obtain ⟨v1, vs1, d1, ds1, p1, q1, rfl, rfl, rfl, h1, r1⟩ := trodAll_cons r0
  obtain ⟨v2, vs2, d2, ds2, p2, q2, rfl, rfl, rfl, h2, r2⟩ := trodAll_cons r1
  obtain ⟨rfl, rfl, rfl⟩ := trodAll_nil r2
  obtain rfl : args = #[v0, v1, v2] := by cases args; simp_all
  obtain ⟨rfl, rfl⟩ := trodVars_none hV
  obtain ⟨a0, rfl, rfl, rfl, w0⟩ := open_int Try.underlying3 (hval 0 3 v0 rfl rfl) h0
  obtain ⟨a1, len1, cap1, rfl⟩ := okWide_slice Try.underlying22 (hval 1 22 v1 rfl rfl)
  have k1 := h1
  have lt1 : ∀ x ∈ p1, x.block < W.heap.size := by obtain ⟨m, hm⟩ := k1; exact DataW.trod_lt m _ _ _ hm
  obtain ⟨z1, rfl, hlc01, hC01, hd1⟩ := Args.pairs_read Try.underlying22 Try.underlying26 (by kernel_rfl) rfl rfl (by kernel_rfl) (by kernel_rfl) Try.underlying3 Try.underlying3 h1
  have hn01 := Args.sized_pairs hsz (j := 1) rfl rfl Try.underlying22 (B := 16) (by kernel_rfl) hd1
  have hC1 : Go.Proofs.YthpdemfehkoniaaW.PrintWords.Kd.C PSet.k26 W a1 _ _ := Args.C_iso (f := fun x : PSet.S26 => (x.f0, x.f1)) (g := fun p : Int × Int => (⟨p.1, p.2⟩ : PSet.S26)) (fun _ => rfl) hC01
  obtain ⟨l1, el1⟩ : ∃ l, l = z1.map (fun p : Int × Int => (⟨p.1, p.2⟩ : PSet.S26)) := ⟨_, rfl⟩
  have ln1 : z1.length = l1.length := by rw [el1, List.length_map]
  rw [← el1] at hC1
  rw [ln1] at hlc01 hn01 hW' k1 ⊢
  have hlc1 := hlc01
  have hn1 := hn01
  obtain ⟨a2, len2, cap2, rfl⟩ := okWide_slice Try.underlying45 (hval 2 45 v2 rfl rfl)
  have k2 := h2
  have lt2 : ∀ x ∈ p2, x.block < W.heap.size := by obtain ⟨m, hm⟩ := k2; exact DataW.trod_lt m _ _ _ hm
  obtain ⟨l2, ln2, hlc2, hC2, hd2⟩ := Args.ints_read Try.underlying45 Try.underlying3 (by kernel_rfl) h2
  subst ln2
  have hn2 := Args.sized_pairs hsz (j := 2) rfl rfl Try.underlying45 (B := 8) (by kernel_rfl) hd2
  obtain ⟨n, h1n, hn16, hc, hrep⟩ := PSet.clamp16 a0
  have hw := PSet.SettleEnough_calls a0 n h1n hn16 hc hrep a1 cap1 l1 a2 cap2 l2 W hC1 hlc1 hn1 hC2 hlc2 (by omega)
  refine hw.mono fun e W' ⟨he, bel⟩ => ?_
  subst he
  exact ⟨_, rfl, _, _, _, [], _, [], hW', trodAll_mk1 (shut_bool Try.underlying4 _), (trodAll_cons_mk (shut_int Try.underlying3 w0) (trodAll_cons_mk (Below.trod laidOut (by kernel_rfl) (of_decide_eq_true (by kernel_rfl)) k1 bel lt1) (trodAll_cons_mk (Below.trod laidOut (by kernel_rfl) (of_decide_eq_true (by kernel_rfl)) k2 bel lt2) trodAll_mk0))), rfl, bel.frame _, fun h => by cases h⟩
theorem over : Rows.settleEnoughRow.holds Try.pinned (OpenSpec.ofChange Rows.settleEnoughSpec) :=
  OpenClaim.holds_of_wide 9 Try.f9 rfl rfl rfl rfl rfl rfl rfl ⟨rfl, rfl, rfl, rfl, rfl⟩ rfl rfl rfl rfl rfl (by kernel_rfl) Try.func9 (by kernel_rfl)
    (of_decide_eq_true (by kernel_rfl)) (by unfold Func.isWrapper; first | (rw [if_pos (by decide +kernel)]; kernel_rfl) | (rw [if_neg (by decide +kernel)]; exact ⟨rfl, rfl⟩))
    (fun os started H enc _ => lifted os started H enc)
theorem proved : Rows.SettleEnoughSaid := over
#print axioms proved
end Go.Proofs.Ythpdemfehkoniaa.settleEnough
namespace Go.Proofs.Ythpdemfehkoniaa
/-- The row, under a short name, for the claim. -/
theorem settleEnough_holds : Rows.SettleEnoughSaid := settleEnough.proved
end Go.Proofs.Ythpdemfehkoniaa
