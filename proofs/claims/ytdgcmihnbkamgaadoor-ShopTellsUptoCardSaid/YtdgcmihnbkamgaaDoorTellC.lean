/- The document's Shopping: one line's text. Condition: the line's numbers are an int's, its name is no longer than 2^20. -/
import Derived.Test.YtdgcmihnbkamgaaDoorTellB
namespace Go.Proofs.YtdgcmihnbkamgaaDoor
open Go.RowKit
set_option linter.unusedVariables false
attribute [local go_sem ↓] Go.wp_at_zero Go.wp_at_succ
theorem line_one (s : ByteArray) (q : Int) : headS s q ++ ⟨#[10]⟩ = ⟨(lineT s q 1).toArray⟩ := by
  apply ByteArray.ext
  apply Array.toList_inj.1
  simp [lineT]
theorem line_more (s : ByteArray) (q p : Int) (hp : p ≠ 1) : headS s q ++ inS p ++ ⟨#[10]⟩ = ⟨(lineT s q p).toArray⟩ := by
  apply ByteArray.ext
  apply Array.toList_inj.1
  simp [lineT, hp]
set_option maxHeartbeats 4000000 in
set_option maxRecDepth 100000 in
theorem Shopping_one (s : ByteArray) (q : Int) (q0 : -9223372036854775808 ≤ q) (q1 : q ≤ 9223372036854775807) (w : World) (hs : s.size ≤ 1048576) :
    Calls Tryd.prog 16 #[.agg #[.string s, .int .i64 q, .int .i64 1]] w fun e w' => e = .returned (.string (headS s q ++ ⟨#[10]⟩)) ∧ Below w.heap.size w w' := by
  have hq := Lib.itoa_length_le q q0 q1
  have ho1 : ¬ (9223372036854775807 < 2 + s.size) := by omega
  have ho2 : ¬ (9223372036854775807 < 2 + s.size + 1) := by omega
  have ho3 : ¬ (9223372036854775807 < 2 + s.size + 1 + (Lib.itoa q).length) := by omega
  have ho5 : ¬ (9223372036854775807 < 2 + s.size + 1 + (Lib.itoa q).length + 1) := by omega
  clear hq
  go_enter Tryd.func16, Tryd.ntmps16
  go_wp2
  have hb0 := Below.alloc (Below.refl w.heap.size w) (Nat.le_refl _) (.cells #[.string s, .int .i64 q, .int .i64 1] 31)
  have hH : Hp w.heap.size s q 1 (w.alloc (.cells #[.string s, .int .i64 q, .int .i64 1] 31)) := heap_alloc_new w _
  obtain ⟨g, hg⟩ : ∃ g, w.heap.size = g := ⟨_, rfl⟩
  generalize (w.alloc (.cells #[.string s, .int .i64 q, .int .i64 1] 31)) = w1 at hb0 hH ⊢
  rw [hg] at hH ⊢
  go_region_held3 (fun w' => w'.cell? ⟨g, 0, none⟩ = some (.string s) ∧ w'.cell? ⟨g, 1, none⟩ = some (.int .i64 q) ∧ w'.cell? ⟨g, 2, none⟩ = some (.int .i64 1))
    (first | exact hH.bx | exact hH.drew.bx | exact hH2.out.bx)
    ((go_at_call 11; refine (number_calls q q0 q1 _).mono ?_; rintro e w2 ⟨rfl, hb2⟩; have HB2 := Lib.hid hb2; have hH2 := Lib.hid (Hp.below (Hp.drew hH) hb2)))
  all_goals
    have HB := Lib.hid (hb0.trans (((Below.drew (Below.refl _ _)).trans hb2).mono hb0.size))
    obtain ⟨c0, c1, c2⟩ := hH2.out.bx
    clear hb2 hb0
    go_wp2
    go_ret
    exact ⟨rfl, HB.out⟩
set_option maxHeartbeats 4000000 in
set_option maxRecDepth 100000 in
theorem Shopping_more (s : ByteArray) (q : Int) (q0 : -9223372036854775808 ≤ q) (q1 : q ≤ 9223372036854775807) (p : Int) (p0 : -9223372036854775808 ≤ p) (p1 : p ≤ 9223372036854775807) (pn : p ≠ 1) (w : World) (hs : s.size ≤ 1048576) :
    Calls Tryd.prog 16 #[.agg #[.string s, .int .i64 q, .int .i64 p]] w fun e w' => e = .returned (.string (headS s q ++ inS p ++ ⟨#[10]⟩)) ∧ Below w.heap.size w w' := by
  have hq := Lib.itoa_length_le q q0 q1
  have ho1 : ¬ (9223372036854775807 < 2 + s.size) := by omega
  have ho2 : ¬ (9223372036854775807 < 2 + s.size + 1) := by omega
  have ho3 : ¬ (9223372036854775807 < 2 + s.size + 1 + (Lib.itoa q).length) := by omega
  have ho5 : ¬ (9223372036854775807 < 2 + s.size + 1 + (Lib.itoa q).length + 1) := by omega
  have hpi := Lib.itoa_length_le p p0 p1
  have ho6 : ¬ (9223372036854775807 < 4 + (Lib.itoa p).length) := by omega
  have ho7 : ¬ (9223372036854775807 < 2 + s.size + 1 + (Lib.itoa q).length + (4 + (Lib.itoa p).length)) := by omega
  have ho8 : ¬ (9223372036854775807 < 2 + s.size + 1 + (Lib.itoa q).length + (4 + (Lib.itoa p).length) + 1) := by omega
  have hpn : (p != 1) = true := by rw [bne_iff_ne]; exact pn
  clear hq hpi pn
  go_enter Tryd.func16, Tryd.ntmps16
  go_wp2
  have hb0 := Below.alloc (Below.refl w.heap.size w) (Nat.le_refl _) (.cells #[.string s, .int .i64 q, .int .i64 p] 31)
  have hH : Hp w.heap.size s q p (w.alloc (.cells #[.string s, .int .i64 q, .int .i64 p] 31)) := heap_alloc_new w _
  obtain ⟨g, hg⟩ : ∃ g, w.heap.size = g := ⟨_, rfl⟩
  generalize (w.alloc (.cells #[.string s, .int .i64 q, .int .i64 p] 31)) = w1 at hb0 hH ⊢
  rw [hg] at hH ⊢
  go_region_held3 (fun w' => w'.cell? ⟨g, 0, none⟩ = some (.string s) ∧ w'.cell? ⟨g, 1, none⟩ = some (.int .i64 q) ∧ w'.cell? ⟨g, 2, none⟩ = some (.int .i64 p))
    (first | exact hH.bx | exact hH.drew.bx | exact hH2.out.bx)
    ((go_at_call 11; refine (number_calls q q0 q1 _).mono ?_; rintro e w2 ⟨rfl, hb2⟩; have HB2 := Lib.hid hb2; have hH2 := Lib.hid (Hp.below (Hp.drew hH) hb2)))
  all_goals
    have HB := Lib.hid (hb0.trans (((Below.drew (Below.refl _ _)).trans hb2).mono hb0.size))
    obtain ⟨c0, c1, c2⟩ := hH2.out.bx
    clear hb2 hb0
    go_wp2_with (go_at_call 11; (with_reducible refine (number_calls p p0 p1 _).mono ?_); rintro e w4 ⟨rfl, hb4⟩; have HB4 := Lib.hid (HB.out.trans (hb4.mono HB.out.size)); clear hb4)
    go_ret
    exact ⟨rfl, HB4.out⟩
theorem Shopping_calls (s : ByteArray) (q : Int) (q0 : -9223372036854775808 ≤ q) (q1 : q ≤ 9223372036854775807) (p : Int) (p0 : -9223372036854775808 ≤ p) (p1 : p ≤ 9223372036854775807) (w : World) (hs : s.size ≤ 1048576) :
    Calls Tryd.prog 16 #[.agg #[.string s, .int .i64 q, .int .i64 p]] w fun e w' => e = .returned (.string ⟨(lineT s q p).toArray⟩) ∧ Below w.heap.size w w' := by
  by_cases hp1 : p = 1
  · subst hp1
    rw [← line_one]
    exact Shopping_one s q q0 q1 w hs
  · rw [← line_more s q p hp1]
    exact Shopping_more s q q0 q1 p p0 p1 hp1 w hs
end Go.Proofs.YtdgcmihnbkamgaaDoor
