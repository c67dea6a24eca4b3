/- ShopWords: the walk of the statement. Condition: the table of powers of ten is laid. -/
import Derived.Test.YtdgcmihnbkamgaaDoorWordD
namespace Go.Proofs.YtdgcmihnbkamgaaDoor
open Go.RowKit
set_option linter.unusedVariables false
set_option maxHeartbeats 4000000 in
set_option maxRecDepth 100000 in
theorem ShopWords_calls (e : Int) (h0 : -9223372036854775808 ≤ e) (h1 : e ≤ 9223372036854775807) (w : World) (hp : Pow w) : Calls Tryd.prog 3 #[.int .i64 e] w fun r w' => r = .returned (.bool true) ∧ Below w.heap.size w w' := by
  obtain ⟨s, hs5, hs6⟩ := both e h0 h1
  have HP := Lib.hid hp
  have HS5 := Lib.hid hs5
  have HS6 := Lib.hid hs6
  have H12 := Lib.hid (word_hit 12 12 ⟨#[102, 117, 108, 108]⟩ (by rfl))
  clear hp hs5 hs6
  go_enter Tryd.func3, Tryd.ntmps3
  go_wp2_with (first
    | (go_at_call 5; ((with_reducible refine (H12.out _).mono ?_); rintro r w1 ⟨rfl, hb1⟩; have HB1 := Lib.hid hb1; clear hb1))
    | (go_at_call 5; ((with_reducible refine (HS5.out _ (pow_below HP.out HB1.out)).mono ?_); rintro r w2 ⟨rfl, hb2⟩; have HB2 := Lib.hid (HB1.out.trans (hb2.mono HB1.out.size)); clear hb2))
    | (go_at_call 6; ((with_reducible refine (HS6.out _).mono ?_); rintro r w3 ⟨rfl, hb3⟩; have HB3 := Lib.hid (HB2.out.trans (hb3.mono HB2.out.size)); clear hb3)))
  go_ret
  exact ⟨rfl, HB3.out⟩
end Go.Proofs.YtdgcmihnbkamgaaDoor
