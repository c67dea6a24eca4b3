/- The document's Word: the walk. Condition: the status is an int's. -/
import Derived.Test.YtdgcmihnbkamgaaDoorWordC
namespace Go.Proofs.YtdgcmihnbkamgaaDoor
open Go.RowKit
set_option linter.unusedVariables false
/-- The words from 0 to 23. -/
def lowL : List UInt8 := [111, 107, 32, 102, 111, 114, 109, 32, 110, 117, 109, 98, 101, 114, 32, 114, 101, 112, 108, 105, 99, 97, 32, 99, 97, 114, 116, 32, 115, 107, 117, 32, 113, 117, 97, 110, 116, 105, 116, 121, 32, 107, 105, 110, 100, 32, 109, 97, 108, 102, 111, 114, 109, 101, 100, 32, 101, 120, 104, 97, 117, 115, 116, 101, 100, 32, 99, 108, 97, 115, 104, 32, 97, 98, 115, 101, 110, 116, 32, 102, 117, 108, 108, 32, 111, 118, 101, 114, 102, 108, 111, 119, 32, 116, 111, 107, 101, 110, 32, 109, 101, 115, 115, 97, 103, 101, 32, 115, 101, 108, 102, 32, 116, 101, 120, 116, 32, 45, 32, 45, 32, 101, 109, 112, 116, 121, 32, 108, 111, 110, 103, 32, 98, 121, 116, 101, 32, 100, 105, 103, 105, 116]
def errS (e : Int) : ByteArray := (⟨#[101, 114, 114, 111, 114, 32]⟩ : ByteArray) ++ ⟨(Lib.itoa e).toArray⟩
set_option maxHeartbeats 4000000 in
set_option maxRecDepth 100000 in
theorem ref_in (e : Int) (h0 : 0 ≤ e) (h1 : e < 24) (u : List UInt8) (hu : (wAll e lowL).2 = u) (hn : u.isEmpty = false) (hd : (u == [45]) = false) (w : World) : Calls Tryd.prog 6 #[.int .i64 e] w fun r w' => r = .returned (.string ⟨u.toArray⟩) ∧ Below w.heap.size w w' := by
  have h50 : (e == 50) = false := by rw [beq_eq_false_iff_ne]; omega
  have h51 : (e == 51) = false := by rw [beq_eq_false_iff_ne]; omega
  have h52 : (e == 52) = false := by rw [beq_eq_false_iff_ne]; omega
  have HU := Lib.hid hu
  clear hu
  go_enter Tryd.func6, Tryd.ntmps6
  go_wp2_with (go_at_call 10; refine (kth_calls ⟨lowL.toArray⟩ e (by decide) _).mono ?_; rintro r w1 ⟨rfl, hb⟩; rw [show (⟨lowL.toArray⟩ : ByteArray).data.toList = lowL from rfl, HU.out])
  go_ret
  exact ⟨rfl, hb⟩
set_option maxHeartbeats 4000000 in
set_option maxRecDepth 100000 in
theorem ref_dash (e : Int) (h0 : 0 ≤ e) (h1 : e < 24) (hu : (wAll e lowL).2 = [45]) (w : World) : Calls Tryd.prog 6 #[.int .i64 e] w fun r w' => r = .returned (.string (errS e)) ∧ Below w.heap.size w w' := by
  have h50 : (e == 50) = false := by rw [beq_eq_false_iff_ne]; omega
  have h51 : (e == 51) = false := by rw [beq_eq_false_iff_ne]; omega
  have h52 : (e == 52) = false := by rw [beq_eq_false_iff_ne]; omega
  have hov : ¬ (9223372036854775807 < 6 + (Lib.itoa e).length) := by have := Lib.itoa_length_le e (by omega) (by omega); omega
  have HU := Lib.hid hu
  clear hu
  unfold errS
  go_enter Tryd.func6, Tryd.ntmps6
  go_wp2_with (first
    | (go_at_call 10; refine (kth_calls ⟨lowL.toArray⟩ e (by decide) _).mono ?_; rintro r w1 ⟨rfl, hb⟩; rw [show (⟨lowL.toArray⟩ : ByteArray).data.toList = lowL from rfl, HU.out])
    | (go_at_call 11; refine (number_calls e (by omega) (by omega) _).mono ?_; rintro r w2 ⟨rfl, hb2⟩))
  go_ret
  exact ⟨rfl, hb.trans (hb2.mono hb.size)⟩
set_option maxHeartbeats 4000000 in
set_option maxRecDepth 100000 in
theorem ref_low (e : Int) (h0 : -9223372036854775808 ≤ e) (h1 : e < 0) (w : World) : Calls Tryd.prog 6 #[.int .i64 e] w fun r w' => r = .returned (.string (errS e)) ∧ Below w.heap.size w w' := by
  have h50 : (e == 50) = false := by rw [beq_eq_false_iff_ne]; omega
  have h51 : (e == 51) = false := by rw [beq_eq_false_iff_ne]; omega
  have h52 : (e == 52) = false := by rw [beq_eq_false_iff_ne]; omega
  have hge : decide (0 ≤ e) = false := decide_eq_false (by omega)
  have hov : ¬ (9223372036854775807 < 6 + (Lib.itoa e).length) := by have := Lib.itoa_length_le e h0 (by omega); omega
  unfold errS
  go_enter Tryd.func6, Tryd.ntmps6
  go_wp2_with (go_at_call 11; refine (number_calls e h0 (by omega) _).mono ?_; rintro r w2 ⟨rfl, hb2⟩)
  go_ret
  exact ⟨rfl, hb2⟩
set_option maxHeartbeats 4000000 in
set_option maxRecDepth 100000 in
theorem ref_high (e : Int) (h0 : 24 ≤ e) (h1 : e ≤ 9223372036854775807) (n50 : e ≠ 50) (n51 : e ≠ 51) (n52 : e ≠ 52) (w : World) : Calls Tryd.prog 6 #[.int .i64 e] w fun r w' => r = .returned (.string (errS e)) ∧ Below w.heap.size w w' := by
  have h50 : (e == 50) = false := by rw [beq_eq_false_iff_ne]; omega
  have h51 : (e == 51) = false := by rw [beq_eq_false_iff_ne]; omega
  have h52 : (e == 52) = false := by rw [beq_eq_false_iff_ne]; omega
  have hge : decide (0 ≤ e) = true := decide_eq_true (by omega)
  have hlt : decide (e < 24) = false := decide_eq_false (by omega)
  have hov : ¬ (9223372036854775807 < 6 + (Lib.itoa e).length) := by have := Lib.itoa_length_le e (by omega) h1; omega
  clear n50 n51 n52
  unfold errS
  go_enter Tryd.func6, Tryd.ntmps6
  go_wp2_with (go_at_call 11; refine (number_calls e (by omega) h1 _).mono ?_; rintro r w2 ⟨rfl, hb2⟩)
  go_ret
  exact ⟨rfl, hb2⟩
set_option maxHeartbeats 4000000 in
set_option maxRecDepth 100000 in
theorem ref_50 (w : World) : Calls Tryd.prog 6 #[.int .i64 50] w fun r w' => r = .returned (.string ⟨#[115, 104, 111, 114, 116]⟩) ∧ Below w.heap.size w w' := by
  go_enter Tryd.func6, Tryd.ntmps6
  go_wp2
  go_ret
  exact ⟨rfl, Below.refl _ _⟩
set_option maxHeartbeats 4000000 in
set_option maxRecDepth 100000 in
theorem ref_51 (w : World) : Calls Tryd.prog 6 #[.int .i64 51] w fun r w' => r = .returned (.string ⟨#[119, 105, 100, 101]⟩) ∧ Below w.heap.size w w' := by
  go_enter Tryd.func6, Tryd.ntmps6
  go_wp2
  go_ret
  exact ⟨rfl, Below.refl _ _⟩
set_option maxHeartbeats 4000000 in
set_option maxRecDepth 100000 in
theorem ref_52 (w : World) : Calls Tryd.prog 6 #[.int .i64 52] w fun r w' => r = .returned (.string ⟨#[114, 101, 115, 116]⟩) ∧ Below w.heap.size w w' := by
  go_enter Tryd.func6, Tryd.ntmps6
  go_wp2
  go_ret
  exact ⟨rfl, Below.refl _ _⟩
/-- Both words: one string. -/
def Both (e : Int) : Prop := ∃ s : ByteArray, (∀ w, Pow w → Calls Tryd.prog 5 #[.int .i64 e] w fun r w' => r = .returned (.string s) ∧ Below w.heap.size w w') ∧ (∀ w, Calls Tryd.prog 6 #[.int .i64 e] w fun r w' => r = .returned (.string s) ∧ Below w.heap.size w w')
theorem both_hit (e : Int) (i : Nat) (u : List UInt8) (h0 : 0 ≤ e) (h1 : e < 24) (hf : Instr.findNow (.int .i64) (.int .i64 e) wordEs.toList 0 = some (some (i, .agg #[.string ⟨u.toArray⟩]))) (hu : (wAll e lowL).2 = u) (hn : u.isEmpty = false) (hd : (u == [45]) = false) : Both e :=
  ⟨⟨u.toArray⟩, fun w _ => word_hit e i _ hf w, fun w => ref_in e h0 h1 u hu hn hd w⟩
theorem both_dash (e : Int) (h0 : 0 ≤ e) (h1 : e < 24) (hf : Instr.findNow (.int .i64) (.int .i64 e) wordEs.toList 0 = some none) (hu : (wAll e lowL).2 = [45]) : Both e :=
  ⟨errS e, fun w hw => word_miss e (by omega) (by omega) hf w hw, fun w => ref_dash e h0 h1 hu w⟩
theorem findNow_lack (e : Int) : ∀ (l : List MapEntry) (i : Nat), (∀ x ∈ l, ∃ k : Int, x.key = .int .i64 k ∧ e ≠ k) → Instr.findNow (.int .i64) (.int .i64 e) l i = some none := by
  intro l
  induction l with
  | nil => intro i _; rfl
  | cons x l ih =>
    intro i h
    obtain ⟨k, hk, hne⟩ := h x (List.mem_cons_self ..)
    have hb : (e == k) = false := beq_eq_false_iff_ne.2 hne
    unfold Instr.findNow
    rw [hk]
    simp only [Instr.sameNow, if_true, hb]
    exact ih (i + 1) (fun y hy => h y (List.mem_cons_of_mem _ hy))
def wordKeys : List Int := [0, 1, 2, 3, 4, 5, 6, 7, 8, 9, 10, 11, 12, 13, 14, 15, 16, 17, 20, 21, 22, 23, 50, 51, 52]
theorem keys_eq : wordEs.toList.map (·.key) = wordKeys.map (Value.int .i64) := by rfl
theorem keys (e : Int) (h : ∀ k, k ∈ wordKeys → e ≠ k) : Instr.findNow (.int .i64) (.int .i64 e) wordEs.toList 0 = some none := by
  refine findNow_lack e _ _ (fun x hx => ?_)
  have h1 : x.key ∈ wordEs.toList.map (·.key) := List.mem_map_of_mem hx
  rw [keys_eq] at h1
  obtain ⟨k, hk, he⟩ := List.mem_map.1 h1
  exact ⟨k, he.symm, h k hk⟩
theorem both (e : Int) (h0 : -9223372036854775808 ≤ e) (h1 : e ≤ 9223372036854775807) : Both e := by
  by_cases hin : 0 ≤ e ∧ e < 24
  · obtain ⟨n, rfl⟩ : ∃ n : Nat, e = (n : Int) := ⟨e.toNat, by omega⟩
    have hn : n < 24 := by omega
    have hc : n = 0 ∨ n = 1 ∨ n = 2 ∨ n = 3 ∨ n = 4 ∨ n = 5 ∨ n = 6 ∨ n = 7 ∨ n = 8 ∨ n = 9 ∨ n = 10 ∨ n = 11 ∨ n = 12 ∨ n = 13 ∨ n = 14 ∨ n = 15 ∨ n = 16 ∨ n = 17 ∨ n = 18 ∨ n = 19 ∨ n = 20 ∨ n = 21 ∨ n = 22 ∨ n = 23 := by omega
    rcases hc with rfl | rfl | rfl | rfl | rfl | rfl | rfl | rfl | rfl | rfl | rfl | rfl | rfl | rfl | rfl | rfl | rfl | rfl | rfl | rfl | rfl | rfl | rfl | rfl
    · exact both_hit 0 0 [111, 107] (by decide) (by decide) (by rfl) (by decide +kernel) rfl (by decide)
    · exact both_hit 1 1 [102, 111, 114, 109] (by decide) (by decide) (by rfl) (by decide +kernel) rfl (by decide)
    · exact both_hit 2 2 [110, 117, 109, 98, 101, 114] (by decide) (by decide) (by rfl) (by decide +kernel) rfl (by decide)
    · exact both_hit 3 3 [114, 101, 112, 108, 105, 99, 97] (by decide) (by decide) (by rfl) (by decide +kernel) rfl (by decide)
    · exact both_hit 4 4 [99, 97, 114, 116] (by decide) (by decide) (by rfl) (by decide +kernel) rfl (by decide)
    · exact both_hit 5 5 [115, 107, 117] (by decide) (by decide) (by rfl) (by decide +kernel) rfl (by decide)
    · exact both_hit 6 6 [113, 117, 97, 110, 116, 105, 116, 121] (by decide) (by decide) (by rfl) (by decide +kernel) rfl (by decide)
    · exact both_hit 7 7 [107, 105, 110, 100] (by decide) (by decide) (by rfl) (by decide +kernel) rfl (by decide)
    · exact both_hit 8 8 [109, 97, 108, 102, 111, 114, 109, 101, 100] (by decide) (by decide) (by rfl) (by decide +kernel) rfl (by decide)
    · exact both_hit 9 9 [101, 120, 104, 97, 117, 115, 116, 101, 100] (by decide) (by decide) (by rfl) (by decide +kernel) rfl (by decide)
    · exact both_hit 10 10 [99, 108, 97, 115, 104] (by decide) (by decide) (by rfl) (by decide +kernel) rfl (by decide)
    · exact both_hit 11 11 [97, 98, 115, 101, 110, 116] (by decide) (by decide) (by rfl) (by decide +kernel) rfl (by decide)
    · exact both_hit 12 12 [102, 117, 108, 108] (by decide) (by decide) (by rfl) (by decide +kernel) rfl (by decide)
    · exact both_hit 13 13 [111, 118, 101, 114, 102, 108, 111, 119] (by decide) (by decide) (by rfl) (by decide +kernel) rfl (by decide)
    · exact both_hit 14 14 [116, 111, 107, 101, 110] (by decide) (by decide) (by rfl) (by decide +kernel) rfl (by decide)
    · exact both_hit 15 15 [109, 101, 115, 115, 97, 103, 101] (by decide) (by decide) (by rfl) (by decide +kernel) rfl (by decide)
    · exact both_hit 16 16 [115, 101, 108, 102] (by decide) (by decide) (by rfl) (by decide +kernel) rfl (by decide)
    · exact both_hit 17 17 [116, 101, 120, 116] (by decide) (by decide) (by rfl) (by decide +kernel) rfl (by decide)
    · exact both_dash 18 (by decide) (by decide) (by rfl) (by decide +kernel)
    · exact both_dash 19 (by decide) (by decide) (by rfl) (by decide +kernel)
    · exact both_hit 20 18 [101, 109, 112, 116, 121] (by decide) (by decide) (by rfl) (by decide +kernel) rfl (by decide)
    · exact both_hit 21 19 [108, 111, 110, 103] (by decide) (by decide) (by rfl) (by decide +kernel) rfl (by decide)
    · exact both_hit 22 20 [98, 121, 116, 101] (by decide) (by decide) (by rfl) (by decide +kernel) rfl (by decide)
    · exact both_hit 23 21 [100, 105, 103, 105, 116] (by decide) (by decide) (by rfl) (by decide +kernel) rfl (by decide)
  · by_cases h50 : e = 50
    · subst h50; exact ⟨_, fun w _ => word_hit 50 22 _ (by rfl) w, fun w => ref_50 w⟩
    by_cases h51 : e = 51
    · subst h51; exact ⟨_, fun w _ => word_hit 51 23 _ (by rfl) w, fun w => ref_51 w⟩
    by_cases h52 : e = 52
    · subst h52; exact ⟨_, fun w _ => word_hit 52 24 _ (by rfl) w, fun w => ref_52 w⟩
    have hk : Instr.findNow (.int .i64) (.int .i64 e) wordEs.toList 0 = some none := keys e (by
      intro k hk
      simp only [wordKeys, List.mem_cons, List.mem_nil_iff, or_false] at hk
      omega)
    rcases Int.lt_or_le e 0 with h | h
    · exact ⟨errS e, fun w hw => word_miss e h0 h1 hk w hw, fun w => ref_low e h0 h w⟩
    · exact ⟨errS e, fun w hw => word_miss e h0 h1 hk w hw, fun w => ref_high e (by omega) h1 h50 h51 h52 w⟩
end Go.Proofs.YtdgcmihnbkamgaaDoor
