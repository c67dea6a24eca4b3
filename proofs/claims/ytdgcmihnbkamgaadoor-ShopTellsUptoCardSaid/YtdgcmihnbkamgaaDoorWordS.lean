/- Both words of a status are one string of at most 40 bytes. Condition: the status is an int's. -/
import Derived.Test.YtdgcmihnbkamgaaDoorWordD
namespace Go.Proofs.YtdgcmihnbkamgaaDoor
open Go.RowKit
set_option linter.unusedVariables false
theorem errS_size (e : Int) (h0 : -9223372036854775808 ≤ e) (h1 : e ≤ 9223372036854775807) : (errS e).size ≤ 40 := by
  have := Lib.itoa_length_le e h0 h1
  unfold errS
  simp only [ByteArray.size_append]
  show 6 + (Lib.itoa e).toArray.size ≤ _
  rw [List.size_toArray]
  omega
/-- Both words: one string of at most 40 bytes. -/
def BothS (e : Int) : Prop := ∃ s : ByteArray, s.size ≤ 40 ∧ (∀ w, Pow w → Calls Tryd.prog 5 #[.int .i64 e] w fun r w' => r = .returned (.string s) ∧ Below w.heap.size w w') ∧ (∀ w, Calls Tryd.prog 6 #[.int .i64 e] w fun r w' => r = .returned (.string s) ∧ Below w.heap.size w w')
theorem bothS_hit (e : Int) (i : Nat) (u : List UInt8) (h0 : 0 ≤ e) (h1 : e < 24) (hf : Instr.findNow (.int .i64) (.int .i64 e) wordEs.toList 0 = some (some (i, .agg #[.string ⟨u.toArray⟩]))) (hu : (wAll e lowL).2 = u) (hn : u.isEmpty = false) (hd : (u == [45]) = false) (hz : u.length ≤ 40) : BothS e :=
  ⟨⟨u.toArray⟩, by show u.toArray.size ≤ 40; rw [List.size_toArray]; exact hz, fun w _ => word_hit e i _ hf w, fun w => ref_in e h0 h1 u hu hn hd w⟩
theorem bothS_dash (e : Int) (h0 : 0 ≤ e) (h1 : e < 24) (hf : Instr.findNow (.int .i64) (.int .i64 e) wordEs.toList 0 = some none) (hu : (wAll e lowL).2 = [45]) : BothS e :=
  ⟨errS e, errS_size e (by omega) (by omega), fun w hw => word_miss e (by omega) (by omega) hf w hw, fun w => ref_dash e h0 h1 hu w⟩
theorem bothS (e : Int) (h0 : -9223372036854775808 ≤ e) (h1 : e ≤ 9223372036854775807) : BothS e := by
  by_cases hin : 0 ≤ e ∧ e < 24
  · obtain ⟨n, rfl⟩ : ∃ n : Nat, e = (n : Int) := ⟨e.toNat, by omega⟩
    have hn : n < 24 := by omega
    have hc : n = 0 ∨ n = 1 ∨ n = 2 ∨ n = 3 ∨ n = 4 ∨ n = 5 ∨ n = 6 ∨ n = 7 ∨ n = 8 ∨ n = 9 ∨ n = 10 ∨ n = 11 ∨ n = 12 ∨ n = 13 ∨ n = 14 ∨ n = 15 ∨ n = 16 ∨ n = 17 ∨ n = 18 ∨ n = 19 ∨ n = 20 ∨ n = 21 ∨ n = 22 ∨ n = 23 := by omega
    rcases hc with rfl | rfl | rfl | rfl | rfl | rfl | rfl | rfl | rfl | rfl | rfl | rfl | rfl | rfl | rfl | rfl | rfl | rfl | rfl | rfl | rfl | rfl | rfl | rfl
    · exact bothS_hit 0 0 [111, 107] (by decide) (by decide) (by rfl) (by decide +kernel) rfl (by decide) (by decide)
    · exact bothS_hit 1 1 [102, 111, 114, 109] (by decide) (by decide) (by rfl) (by decide +kernel) rfl (by decide) (by decide)
    · exact bothS_hit 2 2 [110, 117, 109, 98, 101, 114] (by decide) (by decide) (by rfl) (by decide +kernel) rfl (by decide) (by decide)
    · exact bothS_hit 3 3 [114, 101, 112, 108, 105, 99, 97] (by decide) (by decide) (by rfl) (by decide +kernel) rfl (by decide) (by decide)
    · exact bothS_hit 4 4 [99, 97, 114, 116] (by decide) (by decide) (by rfl) (by decide +kernel) rfl (by decide) (by decide)
    · exact bothS_hit 5 5 [115, 107, 117] (by decide) (by decide) (by rfl) (by decide +kernel) rfl (by decide) (by decide)
    · exact bothS_hit 6 6 [113, 117, 97, 110, 116, 105, 116, 121] (by decide) (by decide) (by rfl) (by decide +kernel) rfl (by decide) (by decide)
    · exact bothS_hit 7 7 [107, 105, 110, 100] (by decide) (by decide) (by rfl) (by decide +kernel) rfl (by decide) (by decide)
    · exact bothS_hit 8 8 [109, 97, 108, 102, 111, 114, 109, 101, 100] (by decide) (by decide) (by rfl) (by decide +kernel) rfl (by decide) (by decide)
    · exact bothS_hit 9 9 [101, 120, 104, 97, 117, 115, 116, 101, 100] (by decide) (by decide) (by rfl) (by decide +kernel) rfl (by decide) (by decide)
    · exact bothS_hit 10 10 [99, 108, 97, 115, 104] (by decide) (by decide) (by rfl) (by decide +kernel) rfl (by decide) (by decide)
    · exact bothS_hit 11 11 [97, 98, 115, 101, 110, 116] (by decide) (by decide) (by rfl) (by decide +kernel) rfl (by decide) (by decide)
    · exact bothS_hit 12 12 [102, 117, 108, 108] (by decide) (by decide) (by rfl) (by decide +kernel) rfl (by decide) (by decide)
    · exact bothS_hit 13 13 [111, 118, 101, 114, 102, 108, 111, 119] (by decide) (by decide) (by rfl) (by decide +kernel) rfl (by decide) (by decide)
    · exact bothS_hit 14 14 [116, 111, 107, 101, 110] (by decide) (by decide) (by rfl) (by decide +kernel) rfl (by decide) (by decide)
    · exact bothS_hit 15 15 [109, 101, 115, 115, 97, 103, 101] (by decide) (by decide) (by rfl) (by decide +kernel) rfl (by decide) (by decide)
    · exact bothS_hit 16 16 [115, 101, 108, 102] (by decide) (by decide) (by rfl) (by decide +kernel) rfl (by decide) (by decide)
    · exact bothS_hit 17 17 [116, 101, 120, 116] (by decide) (by decide) (by rfl) (by decide +kernel) rfl (by decide) (by decide)
    · exact bothS_dash 18 (by decide) (by decide) (by rfl) (by decide +kernel)
    · exact bothS_dash 19 (by decide) (by decide) (by rfl) (by decide +kernel)
    · exact bothS_hit 20 18 [101, 109, 112, 116, 121] (by decide) (by decide) (by rfl) (by decide +kernel) rfl (by decide) (by decide)
    · exact bothS_hit 21 19 [108, 111, 110, 103] (by decide) (by decide) (by rfl) (by decide +kernel) rfl (by decide) (by decide)
    · exact bothS_hit 22 20 [98, 121, 116, 101] (by decide) (by decide) (by rfl) (by decide +kernel) rfl (by decide) (by decide)
    · exact bothS_hit 23 21 [100, 105, 103, 105, 116] (by decide) (by decide) (by rfl) (by decide +kernel) rfl (by decide) (by decide)
  · by_cases h50 : e = 50
    · subst h50; exact ⟨⟨#[115, 104, 111, 114, 116]⟩, by decide, fun w _ => word_hit 50 22 _ (by rfl) w, fun w => ref_50 w⟩
    by_cases h51 : e = 51
    · subst h51; exact ⟨⟨#[119, 105, 100, 101]⟩, by decide, fun w _ => word_hit 51 23 _ (by rfl) w, fun w => ref_51 w⟩
    by_cases h52 : e = 52
    · subst h52; exact ⟨⟨#[114, 101, 115, 116]⟩, by decide, fun w _ => word_hit 52 24 _ (by rfl) w, fun w => ref_52 w⟩
    have hk : Instr.findNow (.int .i64) (.int .i64 e) wordEs.toList 0 = some none := keys e (by
      intro k hk
      simp only [wordKeys, List.mem_cons, List.mem_nil_iff, or_false] at hk
      omega)
    rcases Int.lt_or_le e 0 with h | h
    · exact ⟨errS e, errS_size e h0 h1, fun w hw => word_miss e h0 h1 hk w hw, fun w => ref_low e h0 h w⟩
    · exact ⟨errS e, errS_size e h0 h1, fun w hw => word_miss e h0 h1 hk w hw, fun w => ref_high e (by omega) h1 h50 h51 h52 w⟩
end Go.Proofs.YtdgcmihnbkamgaaDoor
