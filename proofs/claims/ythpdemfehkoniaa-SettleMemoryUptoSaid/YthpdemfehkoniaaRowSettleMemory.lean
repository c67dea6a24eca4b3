/- SettleMemory: Reach, Enough and Ops leave the list that is handed in as it is and don't keep it, and their answers share nothing. Condition: what comes in is of bulk at most 1048576. -/
import Derived.Test.YthpdemfehkoniaaRows
import Derived.Test.YthpdemfehkoniaaSetMemW
import Derived.Test.YthpdemfehkoniaaArgs
import Derived.WalkKit
import Derived.ProofKit
import Derived.OpenShut
import Derived.JoinedCond
import Derived.Lib.SmallJoins
import Derived.ChangeArms
namespace Go.Proofs.Ythpdemfehkoniaa.settleMemory
open Go.ChangeShapes Go.WideShapes Go.ChangeAt Go.RowKit Go.Deep
set_option linter.unusedVariables false
theorem own : ownKnob Try.prog.godebug = none := by kernel_rfl
theorem laidOut : laidOutB Try.prog = true := by kernel_rfl
open Go.Proofs.YthpdemfehkoniaaW.PrintWords in
theorem field_pairs {H : Type} {enc : TypeId × Value → H} {W : World} {base : Nat} {spare : Nat → Bool} {held : Bool} {n : Nat} {v : Value} {y : DataW H × List MemPlace} (h : DataW.trod enc Try.prog W base spare held n 22 [v] = some y) :
    ∃ (a : Option Addr) (c : Nat) (l : List PSet.S26), v = .slice a l.length c ∧ l.length ≤ c ∧ Kd.C PSet.k26 W a l.length l ∧ ((y.1 = .nil ∧ l.length = 0) ∨ ∃ es sp, y.1 = .slice es sp ∧ es.length = l.length) := by
  have hv : ∃ a len cap, v = .slice a len cap := by
    rcases open_slice_pairs Try.underlying22 Try.underlying26 (by kernel_rfl) rfl rfl (by kernel_rfl) (by kernel_rfl) h with ⟨hcs, _⟩ | ⟨x, l, c, m, n, V0, V1, D0, D1, P0, P1, hcs, _⟩
    · exact ⟨_, _, _, by simpa using hcs⟩
    · exact ⟨_, _, _, by simpa using hcs⟩
  obtain ⟨a, len, cap, rfl⟩ := hv
  obtain ⟨z, rfl, hlc, hC, hd⟩ := Args.pairs_read (d := y.1) (ps := y.2) Try.underlying22 Try.underlying26 (by kernel_rfl) rfl rfl (by kernel_rfl) (by kernel_rfl) Try.underlying3 Try.underlying3 ⟨n, h⟩
  refine ⟨a, cap, z.map (fun p : Int × Int => (⟨p.1, p.2⟩ : PSet.S26)), by rw [List.length_map], by rw [List.length_map]; exact hlc, ?_, by rw [List.length_map]; exact hd⟩
  exact Args.C_iso (f := fun x : PSet.S26 => (x.f0, x.f1)) (g := fun p : Int × Int => (⟨p.1, p.2⟩ : PSet.S26)) (fun _ => rfl) hC
theorem field_small {H : Type} {d : DataW H} {ds rest : List (DataW H)} {len : Nat} (hk : Rows.uptoSmall H (.agg ds :: rest) = true) (hd : d ∈ ds) (h : (d = .nil ∧ len = 0) ∨ ∃ es sp, d = .slice es sp ∧ es.length = len) : len ≤ 1048576 := by
  have hall : Rows.uptoBulkAll (.agg ds :: rest) ≤ 1048576 := of_decide_eq_true hk
  simp only [Rows.uptoBulkAll, Rows.uptoBulk] at hall
  refine Args.small_pairs (ds := ds) ?_ hd h
  exact decide_eq_true (by omega)
theorem contract (H : Type) (enc : TypeId × Value → H) (W : World) (base : Nat) (args : Array Value) (ds gs : List (DataW H)) (before : List MemPlace)
    (hval0 : ∀ (j : Nat) t v, Try.f8.params[j]? = some t → args[j]? = some v → Value.okWide Try.prog W .any base t v)
    (hW : DataW.Whole enc Try.prog Try.f8.params.toList Rows.settleMemorySpec.vars false W args.toList ds gs before) (hk : Rows.uptoSmall H (ds ++ gs) = true) :
    Calls Try.prog 8 args W fun e W' => ∃ v, e = .returned v ∧ Rows.settleMemorySpec.post enc Try.prog Try.f8 false true false false W args v W' := by
  have hval := hval0
  have hW' := hW
  obtain ⟨p, q, hA0, hV, rfl, hfz, hnd⟩ := hW
  have hA : DataW.TrodAll enc Try.prog W 0 (fun _ => true) true Try.f8.params.toList args.toList ds p := hA0
  rw [Try.params8] at hA hval
  obtain ⟨v0, vs0, d0, ds0, p0, q0, hargs, rfl, rfl, h0, r0⟩ := trodAll_cons hA
  obtain ⟨rfl, rfl, rfl⟩ := trodAll_nil r0
  obtain rfl : args = #[v0] := by cases args; simp_all
  obtain ⟨rfl, rfl⟩ := trodVars_none hV
  have k0 := h0
  have lt0 : ∀ x ∈ p0, x.block < W.heap.size := by obtain ⟨m, hm⟩ := k0; exact DataW.trod_lt m _ _ _ hm
  obtain ⟨x0, x1, x2, x3, y0, y1, y2, y3, m, rfl, rfl, rfl, hy0, hy1, hy2, hy3⟩ := Joins.open_agg4 Try.underlying53 (by kernel_rfl) (by kernel_rfl) (hval 0 53 v0 rfl rfl) h0
  obtain ⟨a0, ey, rfl, wa⟩ := DataW.trod_int Try.underlying3 hy0
  obtain ⟨fl, ez, rfl⟩ := DataW.trod_bool Try.underlying4 hy3
  obtain ⟨AA, cA, la, rfl, hcA, hCA, hdA⟩ := field_pairs hy1
  obtain ⟨AB, cB, lb, rfl, hcB, hCB, hdB⟩ := field_pairs hy2
  obtain rfl : x0 = .int .i64 a0 := by simpa using ey
  obtain rfl : x3 = .bool fl := by simpa using ez
  have hsA := field_small (d := y1.1) hk (by simp) hdA
  have hsB := field_small (d := y2.1) hk (by simp) hdB
  obtain ⟨n, h1n, hn, hcl, hrp⟩ := PSet.clamp16 a0
  have hw := PSet.SettleMemory_calls a0 n h1n hn hcl hrp fl AA AB cA cB la lb W hCA hcA hCB hcB hsA hsB
  clear hA0 hval0
  refine hw.mono fun e W' ⟨he, bel⟩ => ?_
  subst he
  exact ⟨_, rfl, _, _, _, [], _, [], hW', trodAll_mk1 (shut_bool Try.underlying4 _), (trodAll_cons_mk (Below.trod laidOut (by kernel_rfl) (of_decide_eq_true (by kernel_rfl)) k0 bel lt0) trodAll_mk0), rfl, bel.frame _, fun h => by cases h⟩

set_option maxRecDepth 100000 in
theorem lifted (os : Os) (started : os.Started) (H : Type) (enc : TypeId × Value → H) (F : Stop.Interp) :
    ReturnsInHanded {} Try.checked os 8 .any ((Rows.OpenSpec.upto Rows.settleMemorySpec).pre6 enc Try.prog Try.f8 Rows.settleMemoryUptoRow.domain false) (((Rows.OpenSpec.upto Rows.settleMemorySpec).at F).post enc Try.prog Try.f8 false true false false) := by
  refine returnsInHanded_of_cond (C := Try.checked) (s := Rows.OpenSpec.upto Rows.settleMemorySpec) (k := Rows.uptoSmall) rfl own started (by kernel_rfl) Try.func8
    (OpenSpec.witness (enc := enc) (C := Try.checked) (s := Rows.OpenSpec.upto Rows.settleMemorySpec) (k := Rows.uptoSmall) rfl false ⟨#[], #[.agg #[.int .i64 0, .slice none 0 0, .slice none 0 0, .bool false]], []⟩ 8 (by kernel_rfl) (by kernel_rfl) (by kernel_rfl)
      (x := ([.agg [.lit (.int .i64 0), .nil, .nil, .lit (.bool false)]], [], [])) (by kernel_rfl) rfl (by kernel_rfl)) ?_
  intro W base args ds gs before hval hW _ hk _
  exact contract H enc W base args ds gs before hval hW hk

theorem proved : Rows.SettleMemoryUptoSaid :=
  OpenClaim.holds_of_cond 8 Try.f8 rfl rfl rfl rfl rfl rfl rfl ⟨rfl, rfl, rfl, rfl, rfl⟩ rfl rfl rfl rfl rfl (by kernel_rfl) Try.func8 (by kernel_rfl)
    (of_decide_eq_true (by kernel_rfl)) (by unfold Func.isWrapper; first | (rw [if_pos (by decide +kernel)]; kernel_rfl) | (rw [if_neg (by decide +kernel)]; exact ⟨rfl, rfl⟩))
    (fun os started H enc _ F => lifted os started H enc F)
#print axioms proved
end Go.Proofs.Ythpdemfehkoniaa.settleMemory
namespace Go.Proofs.Ythpdemfehkoniaa
/-- The row, under a short name, for the claim. -/
theorem settleMemory_holds : Rows.SettleMemoryUptoSaid := settleMemory.proved
end Go.Proofs.Ythpdemfehkoniaa
