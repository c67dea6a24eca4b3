/- PoolBytes: for every script what is done to bytes handed in or out changes nothing, and no two answers lie in one memory. No condition. -/
import Derived.Test.YtdgcmihnbkamgaaRows
import Derived.Test.YtdgcmihnbkamgaaScriptB
import Derived.Test.YtdgcmihnbkamgaaPoolZc
import Derived.WalkKit
import Derived.ProofKit
import Derived.OpenShut
import Derived.ShutString
import Derived.ChangeOld
import Derived.Below
import Derived.SizedLaws
namespace Go.Proofs.Ytdgcmihnbkamgaa.poolBytes
open Go.ChangeShapes Go.WideShapes Go.ChangeAt Go.RowKit
set_option linter.unusedVariables false
theorem own : ownKnob Try.prog.godebug = none := by kernel_rfl
theorem laidOut : laidOutB Try.prog = true := by kernel_rfl
set_option maxRecDepth 100000 in
theorem lifted (os : Os) (started : os.Started) (H : Type) (enc : TypeId × Value → H) :
    ReturnsInHanded {} Try.checked os 6 .any (Rows.poolBytesSpec.pre6 enc Try.prog Try.f6 Rows.poolBytesRow.domain false) (Rows.poolBytesSpec.post enc Try.prog Try.f6 false true false false) := by
  refine returnsInHanded_of_change_sized (C := Try.checked) own started (by kernel_rfl) Try.func6
    (ChangeSpec.witness6 (enc := enc) (C := Try.checked) false ⟨#[], #[.slice none 0 0], []⟩ 8 (by kernel_rfl) (by kernel_rfl) (by kernel_rfl) (by kernel_rfl)) ?_
  intro W base args ds gs before hval1 hW hcnd hsz0 _
  have hsz : (DataW.weightsEach Try.prog (Try.f6.params.toList ++ Rows.poolBytesSpec.plain.varTypes Try.prog) (ds ++ gs)).all (· ≤ reachBytes) = true := hsz0
  have hval0 : ∀ (j : Nat) t v, Try.f6.params[j]? = some t → args[j]? = some v → Value.okWide Try.prog W .any base t v := hval1
  have hval := hval0
  have hW' := hW
  obtain ⟨p, q, hA0, hV, rfl, hfz, hnd⟩ := hW
  have hA : DataW.TrodAll enc Try.prog W 0 (fun _ => true) true Try.f6.params.toList args.toList ds p := hA0
  rw [Try.params6] at hA hval hsz
  obtain ⟨v0, d0, rfl, rfl, h0⟩ := trodAll_one hA
  obtain ⟨rfl, rfl⟩ := trodVars_none hV
  obtain ⟨a1, len1, cap1, rfl⟩ := okWide_slice Try.underlying22 (hval 0 22 v0 rfl rfl)
  have k1 := h0
  have lt1 : ∀ x ∈ p, x.block < W.heap.size := by obtain ⟨m, hm⟩ := k1; exact DataW.trod_lt m _ _ _ hm
  obtain ⟨nn, hn⟩ := h0
  have hn' : DataW.trod enc Try.prog W 0 (fun _ => true) true nn 22 [.slice a1 len1 cap1] = some (d0, p) := by simpa [Value.cells] using hn
  have hsz1 : (DataW.weightsEach Try.prog [22] [d0]).all (· ≤ reachBytes) = true := by
    have h := hsz
    rw [List.append_nil] at h
    exact h
  obtain ⟨A, c, ops, hv, hlen, hsc, hob⟩ := read_script_b hn' hsz1
  injection hv with hv1 hv2 hv3
  subst hv1 hv2 hv3
  refine (PoolBytes_calls W a1 ops.length cap1 ops rfl hlen hsc hob).mono fun e W' ⟨he, bel⟩ => ?_
  subst he
  exact ⟨_, rfl, _, _, _, [], _, [], hW', trodAll_mk1 (shut_bool Try.underlying4 _), (trodAll_cons_mk (Below.trod laidOut (by kernel_rfl) (of_decide_eq_true (by kernel_rfl)) k1 bel lt1) trodAll_mk0), rfl, bel.frame _, fun h => by cases h⟩
theorem over : Rows.poolBytesRow.holds Try.pinned (OpenSpec.ofChange Rows.poolBytesSpec) :=
  OpenClaim.holds_of_wide 6 Try.f6 rfl rfl rfl rfl rfl rfl rfl ⟨rfl, rfl, rfl, rfl, rfl⟩ rfl rfl rfl rfl rfl (by kernel_rfl) Try.func6 (by kernel_rfl)
    (of_decide_eq_true (by kernel_rfl)) (by unfold Func.isWrapper; first | (rw [if_pos (by decide +kernel)]; kernel_rfl) | (rw [if_neg (by decide +kernel)]; exact ⟨rfl, rfl⟩))
    (fun os started H enc _ => lifted os started H enc)
theorem proved : Rows.PoolBytesSaid := over
#print axioms proved
end Go.Proofs.Ytdgcmihnbkamgaa.poolBytes
namespace Go.Proofs.Ytdgcmihnbkamgaa
/-- The row, under a short name, for the claim. -/
theorem poolBytes_holds : Rows.PoolBytesSaid := poolBytes.proved
end Go.Proofs.Ytdgcmihnbkamgaa
