/- The document's Number: a number's decimal text: the walk. Condition: the number is an int's. -/
import Derived.Test.YtdgcmihnbkamgaaDoorWordB
namespace Go.Proofs.YtdgcmihnbkamgaaDoor
open Go.RowKit
set_option linter.unusedVariables false
/-- The digits that are still to come. -/
def pre (u : Nat) : List UInt8 := if u = 0 then [] else Lib.decDigits u
theorem pre_step (u : Nat) (h : u ≠ 0) : pre u = pre (u / 10) ++ [UInt8.ofNat (48 + u % 10)] := by
  unfold pre
  rw [if_neg h, Lib.decDigits]
  by_cases h1 : u < 10
  · rw [dif_pos h1, if_pos (by omega), show u % 10 = u by omega]; rfl
  · rw [dif_neg h1, if_neg (by omega)]
theorem str_cons (c : UInt8) (u : List UInt8) : (⟨#[c]⟩ : ByteArray) ++ ⟨u.toArray⟩ = ⟨(c :: u).toArray⟩ := by
  apply ByteArray.ext
  simp
theorem ret_str {a b : ByteArray} (h : a = b) : Ending.returned (.string a) = Ending.returned (.string b) := by rw [h]
theorem dec_len (u : Nat) (h : u < 18446744073709551616) : (Lib.decDigits u).length ≤ 20 := by rw [Lib.decDigits_length]; exact Lib.nDigits_le20 u h
set_option maxHeartbeats 4000000 in
set_option maxRecDepth 100000 in
theorem number_pos (N : Nat) (h0 : 1 ≤ N) (h1 : N ≤ 9223372036854775807) (w : World) : Calls Tryd.prog 11 #[.int .i64 (N : Int)] w fun r w' => r = .returned (.string ⟨(Lib.itoa (N : Int)).toArray⟩) ∧ Below w.heap.size w w' := by
  rw [Lib.itoa_nonneg]
  have hcv := conv1
  have hz : ((N : Int) == 0) = false := by rw [beq_eq_false_iff_ne]; omega
  have hneg : decide ((N : Int) < 0) = false := decide_eq_false (by omega)
  have HL := Lib.hid (dec_len N (by omega))
  go_enter Tryd.func11, Tryd.ntmps11
  go_wp2
  go_loopg [3, 4] N (fun q v3 v4 wr => ∃ (u : Nat) (ds : List UInt8), u ≤ N ∧ v4 = .int .i64 u ∧ v3 = .string ⟨ds.toArray⟩ ∧ Hid (pre u ++ ds = Lib.decDigits N) ∧ q = u ∧ Below w.heap.size w wr)
  case atStart => exact ⟨N, [], Nat.le_refl _, rfl, rfl, Lib.hid (by unfold pre; rw [if_neg (by omega), List.append_nil]), rfl, Below.refl _ _⟩
  case round =>
    obtain ⟨u, ds, hu, rfl, rfl, HP, hq, hB⟩ := hrel
    have HQ := Lib.hid hq
    clear hq
    by_cases hu0 : u = 0
    · have hmz : ((u : Int) != 0) = false := by rw [bne_eq_false_iff_eq]; omega
      have HE := Lib.hid (show ds = Lib.decDigits N by have h := HP.out; rw [hu0] at h; exact h)
      clear hu0
      go_wp2
      go_ret
      have hE := HE.out
      subst hE
      exact ⟨rfl, hB⟩
    · have hmz : ((u : Int) != 0) = true := by rw [bne_iff_ne]; omega
      have hub : (u : Int) ≤ 9223372036854775807 := by omega
      have hu1 : (1 : Int) ≤ u := by omega
      have hlen : ¬ (9223372036854775807 < 1 + ds.length) := by
        have h := HP.out
        have h2 := congrArg List.length h
        rw [List.length_append] at h2
        have := HL.out
        omega
      have HU0 := Lib.hid hu0
      clear hu0
      go_wp2
      go_roundg (u / 10)
      case measure => have := HQ.out; have := HU0.out; omega
      case rel => exact ⟨u / 10, UInt8.ofNat (48 + u % 10) :: ds, by omega, rfl, by rw [UInt8.ofNat_add, ← str_cons]; rfl, Lib.hid (by have h := HP.out; rw [pre_step u HU0.out, List.append_assoc] at h; exact h), rfl, hB.alloc hB.size _⟩
set_option maxHeartbeats 4000000 in
set_option maxRecDepth 100000 in
theorem number_neg (N : Nat) (h0 : 1 ≤ N) (h1 : N ≤ 9223372036854775808) (w : World) : Calls Tryd.prog 11 #[.int .i64 (-(N : Int))] w fun r w' => r = .returned (.string ⟨(Lib.itoa (-(N : Int))).toArray⟩) ∧ Below w.heap.size w w' := by
  rw [Lib.itoa_neg N h0]
  have hcv := conv1
  have hz : ((-(N : Int)) == 0) = false := by rw [beq_eq_false_iff_ne]; omega
  have hneg : decide ((-(N : Int)) < 0) = true := decide_eq_true (by omega)
  have HL := Lib.hid (dec_len N (by omega))
  go_enter Tryd.func11, Tryd.ntmps11
  go_wp2
  go_loopg [3, 4] N (fun q v3 v4 wr => ∃ (u : Nat) (ds : List UInt8), u ≤ N ∧ v4 = .int .i64 (-(u : Int)) ∧ v3 = .string ⟨ds.toArray⟩ ∧ Hid (pre u ++ ds = Lib.decDigits N) ∧ q = u ∧ Below w.heap.size w wr)
  case atStart => exact ⟨N, [], Nat.le_refl _, rfl, rfl, Lib.hid (by unfold pre; rw [if_neg (by omega), List.append_nil]), rfl, Below.refl _ _⟩
  case round =>
    obtain ⟨u, ds, hu, rfl, rfl, HP, hq, hB⟩ := hrel
    have HQ := Lib.hid hq
    clear hq
    by_cases hu0 : u = 0
    · have hmz : ((-(u : Int)) != 0) = false := by rw [bne_eq_false_iff_eq]; omega
      have HE := Lib.hid (show ds = Lib.decDigits N by have h := HP.out; rw [hu0] at h; exact h)
      clear hu0
      have hlen : ¬ (9223372036854775807 < 1 + ds.length) := by rw [HE.out]; have := HL.out; omega
      go_wp2
      go_ret
      have hE := HE.out
      subst hE
      exact ⟨ret_str (str_cons 45 _), hB⟩
    · have hmz : ((-(u : Int)) != 0) = true := by rw [bne_iff_ne]; omega
      have hub : (u : Int) ≤ 9223372036854775808 := by omega
      have hu1 : (1 : Int) ≤ u := by omega
      have hlen : ¬ (9223372036854775807 < 1 + ds.length) := by
        have h := HP.out
        have h2 := congrArg List.length h
        rw [List.length_append] at h2
        have := HL.out
        omega
      have HU0 := Lib.hid hu0
      clear hu0
      go_wp2
      · go_roundg (u / 10)
        case measure => have := HQ.out; have := HU0.out; omega
        case rel => exact ⟨u / 10, UInt8.ofNat (48 + u % 10) :: ds, by omega, by rw [Int.natCast_ediv]; rfl, by rw [UInt8.ofNat_add, ← str_cons]; rfl, Lib.hid (by have h := HP.out; rw [pre_step u HU0.out, List.append_assoc] at h; exact h), rfl, hB.alloc hB.size _⟩
      · have hm : u % 10 = 0 := by omega
        go_roundg (u / 10)
        case measure => have := HQ.out; have := HU0.out; omega
        case rel => exact ⟨u / 10, UInt8.ofNat (48 + u % 10) :: ds, by omega, by rw [Int.natCast_ediv]; rfl, by rw [show (48 + -((u : Int) % 10)).toNat = 48 + u % 10 by omega]; exact congrArg Value.string (str_cons _ _), Lib.hid (by have h := HP.out; rw [pre_step u HU0.out, List.append_assoc] at h; exact h), rfl, hB.alloc hB.size _⟩
set_option maxHeartbeats 4000000 in
set_option maxRecDepth 100000 in
theorem number_zero (w : World) : Calls Tryd.prog 11 #[.int .i64 0] w fun r w' => r = .returned (.string ⟨(Lib.itoa 0).toArray⟩) ∧ Below w.heap.size w w' := by
  have e : Lib.itoa 0 = [48] := by
    have h := Lib.itoa_nonneg 0
    rw [show ((0 : Nat) : Int) = 0 from rfl] at h
    rw [h, Lib.decDigits_one (by omega)]
    rfl
  rw [e]
  go_enter Tryd.func11, Tryd.ntmps11
  go_wp2
  go_ret
  exact ⟨rfl, Below.refl _ _⟩
theorem number_calls (n : Int) (h0 : -9223372036854775808 ≤ n) (h1 : n ≤ 9223372036854775807) (w : World) : Calls Tryd.prog 11 #[.int .i64 n] w fun r w' => r = .returned (.string ⟨(Lib.itoa n).toArray⟩) ∧ Below w.heap.size w w' := by
  rcases Int.lt_trichotomy n 0 with h | h | h
  · obtain ⟨N, rfl⟩ : ∃ N : Nat, n = -(N : Int) := ⟨n.natAbs, by omega⟩
    exact number_neg N (by omega) (by omega) w
  · subst h; exact number_zero w
  · obtain ⟨N, rfl⟩ : ∃ N : Nat, n = (N : Int) := ⟨n.natAbs, by omega⟩
    exact number_pos N (by omega) (by omega) w
end Go.Proofs.YtdgcmihnbkamgaaDoor
