/- ShopTells: the walk of the statement for an answer without lines. Condition: the table of powers of ten is laid. -/
import Derived.Test.YtdgcmihnbkamgaaDoorTellK
namespace Go.Proofs.YtdgcmihnbkamgaaDoor
open Go.RowKit
set_option linter.unusedVariables false
attribute [local go_sem ↓] Go.wp_at_zero Go.wp_at_succ
set_option maxHeartbeats 4000000 in
set_option maxRecDepth 100000 in
theorem ShopTells_none (n : Int) (n0 : -9223372036854775808 ≤ n) (n1 : n ≤ 9223372036854775807) (st : Int) (st0 : -9223372036854775808 ≤ st) (st1 : st ≤ 9223372036854775807) (t : Int) (t0 : -9223372036854775808 ≤ t) (t1 : t ≤ 9223372036854775807) (m : Int) (m0 : -9223372036854775808 ≤ m) (m1 : m ≤ 9223372036854775807)
    (A : Option Addr) (c : Nat) (w : World) (hp : Pow w) :
    Calls Tryd.prog 4 #[.int .i64 n, .agg #[.int .i64 st, .slice A 0 c, .int .i64 t, .int .i64 m]] w fun e w' => e = .returned (.bool true) ∧ Below w.heap.size w w' := by
  obtain ⟨wd, hwd, h5, h6⟩ := bothS st st0 st1
  have H5 := Lib.hid h5
  have H6 := Lib.hid h6
  have HP := Lib.hid hp
  clear h5 h6 hp
  go_enter Tryd.func4, Tryd.ntmps4
  go_wp2
  have hH : HA w.heap.size st t m A 0 c (w.alloc (.cells #[.int .i64 st, .slice A 0 c, .int .i64 t, .int .i64 m] 28)) := heap_alloc_new w _
  obtain ⟨g, hg⟩ : ∃ g, w.heap.size = g := ⟨_, rfl⟩
  have hb0 := (Below.refl w.heap.size w).alloc (Nat.le_refl _) (.cells #[.int .i64 st, .slice A 0 c, .int .i64 t, .int .i64 m] 28)
  have hS : (w.alloc (.cells #[.int .i64 st, .slice A 0 c, .int .i64 t, .int .i64 m] 28)).heap.size = g + 1 := by simp [← hg]
  generalize (w.alloc (.cells #[.int .i64 st, .slice A 0 c, .int .i64 t, .int .i64 m] 28)) = w1 at hb0 hH hS ⊢
  rw [hg] at hH ⊢
  obtain ⟨i0, hi, hz0, hz1, hz2⟩ := info_parts (show (Tryd.prog.info? 31).map (fun i => (i.zero, i.size, i.bytes)) = some (some (.agg #[.string .empty, .int .i64 0, .int .i64 0]), 3, 32) by kernel_rfl)
  have n0' := World.new_ne w1 ⟨g, 0, none⟩ hH.bx.1
  have n1' := World.new_ne w1 ⟨g, 1, none⟩ hH.bx.2.1
  have n2' := World.new_ne w1 ⟨g, 2, none⟩ hH.bx.2.2.1
  have n3' := World.new_ne w1 ⟨g, 3, none⟩ hH.bx.2.2.2
  have hu28 := Tryd.underlying28
  have HB0 := Lib.hid (show Below g w w1 from hg ▸ hb0)
  clear hb0 hS
  go_region_held3 (fun w' => w'.cell? ⟨g, 0, none⟩ = some (.int .i64 st) ∧ w'.cell? ⟨g, 1, none⟩ = some (.slice A 0 c) ∧ w'.cell? ⟨g, 2, none⟩ = some (.int .i64 t) ∧ w'.cell? ⟨g, 3, none⟩ = some (.int .i64 m))
    (first | with_reducible exact hH.bx | with_reducible exact hH.drew.bx | with_reducible exact (hH.alloc _).drew.bx | with_reducible exact ((hH.alloc _).alloc _).drew.bx | go_keep)
    (refine step_append_empty _ (by rfl) _ _ 26 (by rfl) 31 i0 Tryd.underlying26 hi _ _ _ _ (by rfl) (by rfl) ?_)
  · rename_i hh
    clear hh
    obtain ⟨g2, hg2⟩ : ∃ b, w1.heap.size = b := ⟨_, rfl⟩
    obtain ⟨b, hb⟩ : ∃ b, w1.heap.size + 1 = b := ⟨_, rfl⟩
    obtain ⟨W3, hW3⟩ : ∃ W, ((w1.alloc (.cells #[] 31)).alloc (.cells #[.int .i64 st, .slice (some ⟨w1.heap.size, 0, none⟩) 0 0, .int .i64 t, .int .i64 m] 28)).drew = W := ⟨_, rfl⟩
    have HR := Lib.hid (show Rd g b st t m A (some ⟨g2, 0, none⟩) [] c 0 w W3 by
      rw [← hW3, ← hb, ← hg2]
      have hs := Nat.le_of_lt (heap_lt hH)
      refine rd0 (((hH.alloc _).alloc _).drew) (new_A w1 _) (Below.drew ((HB0.out.alloc hs _).alloc (Nat.le_trans hs (by simp)) _)))
    rw [hW3]
    rw [hb, hg2]
    clear hW3 hb hg2 HB0 hH n0' n1' n2' n3' hi hz0 hz1 hz2
    have hr0 := HR.out
    go_wp2
    go_region_held3 (fun w' => w'.cell? ⟨g, 0, none⟩ = some (.int .i64 st) ∧ w'.cell? ⟨g, 1, none⟩ = some (.slice A 0 c) ∧ w'.cell? ⟨g, 2, none⟩ = some (.int .i64 t) ∧ w'.cell? ⟨g, 3, none⟩ = some (.int .i64 m) ∧ w'.cell? ⟨b, 0, none⟩ = some (.int .i64 st) ∧ w'.cell? ⟨b, 1, none⟩ = some (.slice (some ⟨g2, 0, none⟩) 0 0) ∧ w'.cell? ⟨b, 2, none⟩ = some (.int .i64 t) ∧ w'.cell? ⟨b, 3, none⟩ = some (.int .i64 m))
      (first | with_reducible exact hr0.bx0 | with_reducible exact hr0.drew.bx0 | with_reducible exact HR3.out.bx0 | with_reducible exact HR2.out.bx0 | with_reducible exact HR1.out.bx0)
      (first
        | (go_at_call 8; (with_reducible refine (refTell_empty n n0 n1 st t t0 t1 m m0 m1 wd hwd H6.out A c _).mono ?_); rintro e w6 ⟨rfl, hb6⟩; have HR3 := Lib.hid (HR2.out.on hb6))
        | (go_at_call 7; (with_reducible refine (Tell_empty n n0 n1 st t t0 t1 m m0 m1 wd hwd H5.out (some ⟨g2, 0, none⟩) 0 _ (HR1.out.pw HP.out hg)).mono ?_); rintro e w5 ⟨rfl, hb5⟩; have HR2 := Lib.hid (HR1.out.on hb5))
        | (go_at_call 7; (with_reducible refine (tell3 _ (hr0.drew.pw HP.out hg)).mono ?_); rintro e w4 ⟨rfl, hb4⟩; have HR1 := Lib.hid (hr0.drew.on hb4)))
    clear hb4 hb5 hb6 hr0 HR1 HR2
    obtain ⟨q0, q1, q2, q3, q4, q5, q6, q7⟩ := HR3.out.bx0
    go_wp2
    go_loopg [6, 33] 0 (fun k v6 v33 wr => v33 = .int .i64 0 ∧ Hid (Rd g b st t m A (some ⟨g2, 0, none⟩) [] c 0 w wr))
    case atStart => exact ⟨rfl, HR3⟩
    case round =>
      obtain ⟨rfl, HRr⟩ := hrel
      go_wp2
      go_ret
      exact ⟨rfl, by rw [hg]; exact HRr.out.bl⟩
  · rename_i hh
    clear hh
    obtain ⟨g2, hg2⟩ : ∃ b, w1.heap.size = b := ⟨_, rfl⟩
    obtain ⟨b, hb⟩ : ∃ b, w1.heap.size + 1 = b := ⟨_, rfl⟩
    obtain ⟨W3, hW3⟩ : ∃ W, ((w1.alloc (.cells #[] 31)).alloc (.cells #[.int .i64 st, .slice (some ⟨w1.heap.size, 0, none⟩) 0 0, .int .i64 t, .int .i64 m] 28)).drew = W := ⟨_, rfl⟩
    have HR := Lib.hid (show Rd g b st t m A (some ⟨g2, 0, none⟩) [] c 0 w W3 by
      rw [← hW3, ← hb, ← hg2]
      have hs := Nat.le_of_lt (heap_lt hH)
      refine rd0 (((hH.alloc _).alloc _).drew) (new_A w1 _) (Below.drew ((HB0.out.alloc hs _).alloc (Nat.le_trans hs (by simp)) _)))
    rw [hW3]
    rw [hb, hg2]
    clear hW3 hb hg2 HB0 hH n0' n1' n2' n3' hi hz0 hz1 hz2
    have hr0 := HR.out
    go_wp2
    go_region_held3 (fun w' => w'.cell? ⟨g, 0, none⟩ = some (.int .i64 st) ∧ w'.cell? ⟨g, 1, none⟩ = some (.slice A 0 c) ∧ w'.cell? ⟨g, 2, none⟩ = some (.int .i64 t) ∧ w'.cell? ⟨g, 3, none⟩ = some (.int .i64 m) ∧ w'.cell? ⟨b, 0, none⟩ = some (.int .i64 st) ∧ w'.cell? ⟨b, 1, none⟩ = some (.slice (some ⟨g2, 0, none⟩) 0 0) ∧ w'.cell? ⟨b, 2, none⟩ = some (.int .i64 t) ∧ w'.cell? ⟨b, 3, none⟩ = some (.int .i64 m))
      (first | with_reducible exact hr0.bx0 | with_reducible exact hr0.drew.bx0 | with_reducible exact HR3.out.bx0 | with_reducible exact HR2.out.bx0 | with_reducible exact HR1.out.bx0)
      (first
        | (go_at_call 8; (with_reducible refine (refTell_empty n n0 n1 st t t0 t1 m m0 m1 wd hwd H6.out A c _).mono ?_); rintro e w6 ⟨rfl, hb6⟩; have HR3 := Lib.hid (HR2.out.on hb6))
        | (go_at_call 7; (with_reducible refine (Tell_empty n n0 n1 st t t0 t1 m m0 m1 wd hwd H5.out (some ⟨g2, 0, none⟩) 0 _ (HR1.out.pw HP.out hg)).mono ?_); rintro e w5 ⟨rfl, hb5⟩; have HR2 := Lib.hid (HR1.out.on hb5))
        | (go_at_call 7; (with_reducible refine (tell3 _ (hr0.drew.pw HP.out hg)).mono ?_); rintro e w4 ⟨rfl, hb4⟩; have HR1 := Lib.hid (hr0.drew.on hb4)))
    clear hb4 hb5 hb6 hr0 HR1 HR2
    obtain ⟨q0, q1, q2, q3, q4, q5, q6, q7⟩ := HR3.out.bx0
    go_wp2
    go_loopg [6, 33] 0 (fun k v6 v33 wr => v33 = .int .i64 0 ∧ Hid (Rd g b st t m A (some ⟨g2, 0, none⟩) [] c 0 w wr))
    case atStart => exact ⟨rfl, HR3⟩
    case round =>
      obtain ⟨rfl, HRr⟩ := hrel
      go_wp2
      go_ret
      exact ⟨rfl, by rw [hg]; exact HRr.out.bl⟩
  · rename_i hh
    clear hh
    obtain ⟨g2, hg2⟩ : ∃ b, w1.heap.size + 1 = b := ⟨_, rfl⟩
    obtain ⟨b, hb⟩ : ∃ b, w1.heap.size = b := ⟨_, rfl⟩
    obtain ⟨W3, hW3⟩ : ∃ W, ((w1.alloc (.cells #[.int .i64 st, .slice (some ⟨w1.heap.size + 1, 0, none⟩) 0 0, .int .i64 t, .int .i64 m] 28)).alloc (.cells #[] 31)).drew = W := ⟨_, rfl⟩
    have HR := Lib.hid (show Rd g b st t m A (some ⟨g2, 0, none⟩) [] c 0 w W3 by
      rw [← hW3, ← hb, ← hg2]
      have hs := Nat.le_of_lt (heap_lt hH)
      refine rd0 (((hH.alloc _).alloc _).drew) (new_C w1 _) (Below.drew ((HB0.out.alloc hs _).alloc (Nat.le_trans hs (by simp)) _)))
    rw [hW3]
    rw [hg2, hb]
    clear hW3 hb hg2 HB0 hH n0' n1' n2' n3' hi hz0 hz1 hz2
    have hr0 := HR.out
    go_wp2
    go_region_held3 (fun w' => w'.cell? ⟨g, 0, none⟩ = some (.int .i64 st) ∧ w'.cell? ⟨g, 1, none⟩ = some (.slice A 0 c) ∧ w'.cell? ⟨g, 2, none⟩ = some (.int .i64 t) ∧ w'.cell? ⟨g, 3, none⟩ = some (.int .i64 m) ∧ w'.cell? ⟨b, 0, none⟩ = some (.int .i64 st) ∧ w'.cell? ⟨b, 1, none⟩ = some (.slice (some ⟨g2, 0, none⟩) 0 0) ∧ w'.cell? ⟨b, 2, none⟩ = some (.int .i64 t) ∧ w'.cell? ⟨b, 3, none⟩ = some (.int .i64 m))
      (first | with_reducible exact hr0.bx0 | with_reducible exact hr0.drew.bx0 | with_reducible exact HR3.out.bx0 | with_reducible exact HR2.out.bx0 | with_reducible exact HR1.out.bx0)
      (first
        | (go_at_call 8; (with_reducible refine (refTell_empty n n0 n1 st t t0 t1 m m0 m1 wd hwd H6.out A c _).mono ?_); rintro e w6 ⟨rfl, hb6⟩; have HR3 := Lib.hid (HR2.out.on hb6))
        | (go_at_call 7; (with_reducible refine (Tell_empty n n0 n1 st t t0 t1 m m0 m1 wd hwd H5.out (some ⟨g2, 0, none⟩) 0 _ (HR1.out.pw HP.out hg)).mono ?_); rintro e w5 ⟨rfl, hb5⟩; have HR2 := Lib.hid (HR1.out.on hb5))
        | (go_at_call 7; (with_reducible refine (tell3 _ (hr0.drew.pw HP.out hg)).mono ?_); rintro e w4 ⟨rfl, hb4⟩; have HR1 := Lib.hid (hr0.drew.on hb4)))
    clear hb4 hb5 hb6 hr0 HR1 HR2
    obtain ⟨q0, q1, q2, q3, q4, q5, q6, q7⟩ := HR3.out.bx0
    go_wp2
    go_loopg [6, 33] 0 (fun k v6 v33 wr => v33 = .int .i64 0 ∧ Hid (Rd g b st t m A (some ⟨g2, 0, none⟩) [] c 0 w wr))
    case atStart => exact ⟨rfl, HR3⟩
    case round =>
      obtain ⟨rfl, HRr⟩ := hrel
      go_wp2
      go_ret
      exact ⟨rfl, by rw [hg]; exact HRr.out.bl⟩
end Go.Proofs.YtdgcmihnbkamgaaDoor
