/- shop.Tell: an answer's text. Condition: at most 2^20 lines, each name no longer than 2^20; the table of powers of ten is laid. -/
import Derived.Test.YtdgcmihnbkamgaaDoorTellD
namespace Go.Proofs.YtdgcmihnbkamgaaDoor
open Go.RowKit
set_option linter.unusedVariables false
attribute [local go_sem ↓] Go.wp_at_zero Go.wp_at_succ
theorem HA.wr {g b : Nat} {l : List UInt8} {st t m : Int} {A : Option Addr} {n c : Nat} {w w' : World} (h : HA g st t m A n c w) (hw : Wr (g + 1) b l w w') : HA g st t m A n c w' := (hw.below.block g (Nat.lt_succ_self g)).trans h
theorem len2 (l : List UInt8) (s : ByteArray) : (l ++ s.data.toList).length = l.length + s.size := by rw [List.length_append, Array.length_toList]; rfl
theorem bd_new (w : World) (o : Obj) (g : Nat) (hg : w.heap.size = g) : Bd (g + 1) (g + 1) [] ((w.alloc o).alloc (.cells #[.pointer none, .slice none 0 0] 40)) := by
  subst hg
  refine .inl ⟨Nat.le_refl _, .slice none 0 0, ?_, World.ownsRow_nil _ _ _ _, by simp [Value.ownBlock]⟩
  have h := heap_alloc_new (w.alloc o) (.cells #[.pointer none, .slice none 0 0] 40)
  have e : (w.alloc o).heap.size = w.heap.size + 1 := by simp
  rw [e] at h
  exact h
set_option maxHeartbeats 4000000 in
set_option maxRecDepth 100000 in
theorem Tell_00 (n : Int) (n0 : -9223372036854775808 ≤ n) (n1 : n ≤ 9223372036854775807) (st : Int) (wd : ByteArray) (hwd : wd.size ≤ 40) (h5 : ∀ w, Pow w → Calls Tryd.prog 5 #[.int .i64 st] w fun r w' => r = .returned (.string wd) ∧ Below w.heap.size w w')
    (A : Option Addr) (ls : List Ln) (c : Nat) (hok : LnOks ls) (w : World) (hp : Pow w) (hL : LnsAt w A ls) :
    Calls Tryd.prog 7 #[.int .i64 n, .agg #[.int .i64 st, .slice A ls.length c, .int .i64 0, .int .i64 0]] w fun e w' => e = .returned (.string ⟨((headT n wd).data.toList ++ [10] ++ linesT ls).toArray⟩) ∧ Below w.heap.size w w' := by
  have hn := Lib.itoa_length_le n n0 n1
  have ho1 : ¬ (9223372036854775807 < (Lib.itoa n).length + 1) := by omega
  have ho2 : ¬ (9223372036854775807 < (Lib.itoa n).length + 1 + wd.size) := by omega
  have hz0 := headT_size n wd n0 n1 hwd
  have HO := Lib.hid hok
  have HL := Lib.hid hL
  have HP := Lib.hid hp
  have H5 := Lib.hid h5
  clear hok hL h5 hn hp
  go_enter Tryd.func7, Tryd.ntmps7
  go_wp2
  obtain ⟨g, hg⟩ : ∃ g, w.heap.size = g := ⟨_, rfl⟩
  have hb0 : Below w.heap.size w ((w.alloc (.cells #[.int .i64 st, .slice A ls.length c, .int .i64 0, .int .i64 0] 28)).alloc (.cells #[.pointer none, .slice none 0 0] 40)) := ((Below.refl w.heap.size w).alloc (Nat.le_refl _) _).alloc (by simp) _
  have hH : HA w.heap.size st 0 0 A ls.length c ((w.alloc (.cells #[.int .i64 st, .slice A ls.length c, .int .i64 0, .int .i64 0] 28)).alloc (.cells #[.pointer none, .slice none 0 0] 40)) := (Lib.alloc_old (w.alloc (.cells #[.int .i64 st, .slice A ls.length c, .int .i64 0, .int .i64 0] 28)) _ w.heap.size (by simp)).trans (heap_alloc_new w _)
  have hD := Lib.hid (bd_new w (.cells #[.int .i64 st, .slice A ls.length c, .int .i64 0, .int .i64 0] 28) g hg)
  have hS : g + 1 ≤ ((w.alloc (.cells #[.int .i64 st, .slice A ls.length c, .int .i64 0, .int .i64 0] 28)).alloc (.cells #[.pointer none, .slice none 0 0] 40)).heap.size := by simp [← hg]
  generalize ((w.alloc (.cells #[.int .i64 st, .slice A ls.length c, .int .i64 0, .int .i64 0] 28)).alloc (.cells #[.pointer none, .slice none 0 0] 40)) = w1 at hb0 hH hD hS ⊢
  rw [hg] at hH ⊢
  have HP1 := Lib.hid (pow_below HP.out hb0)
  have HL1 := Lib.hid (HL.out.below hb0)
  go_region_held3 (fun w' => w'.cell? ⟨g, 0, none⟩ = some (.int .i64 st) ∧ w'.cell? ⟨g, 1, none⟩ = some (.slice A ls.length c) ∧ w'.cell? ⟨g, 2, none⟩ = some (.int .i64 0) ∧ w'.cell? ⟨g, 3, none⟩ = some (.int .i64 0))
    (first | exact hH.bx | exact hH.drew.bx | exact hH4.out.bx | exact hH3.out.bx | exact hH2.out.bx)
    (first
      | (go_at_call 9; refine (itoa_calls n n0 n1 _ (Pow.drew HP1.out)).mono ?_; rintro e w2 ⟨rfl, hb2⟩; have HB2 := Lib.hid hb2; have hH2 := Lib.hid (HA.below (HA.drew hH) hb2))
      | (go_at_call 5; refine (H5.out _ (pow_below (Pow.drew HP1.out) HB2.out)).mono ?_; rintro e w3 ⟨rfl, hb3⟩; have HB3 := Lib.hid hb3; have hH3 := Lib.hid (HA.below hH2.out hb3))
      | (go_at_call 12; refine (write_str (g + 1) (g + 1) [] (headT n wd) _ (((Bd.drew hD.out).below HB2.out).below HB3.out) (by simp only [List.length_nil]; omega) (Nat.le_trans (Nat.le_trans hS HB2.out.size) HB3.out.size)).mono ?_; rintro e w4 ⟨rfl, hw4⟩; have HW4 := Lib.hid hw4; have hH4 := Lib.hid (HA.wr hH3.out hw4)))
  all_goals
    have hb23 : Below w1.heap.size w1 w3 := ((Below.drew (Below.refl _ _)).trans hb2).trans (hb3.mono HB2.out.size)
    have HW := Lib.hid (hw4.after hb23 hS)
    have hsz : g + 1 ≤ w4.heap.size := Nat.le_trans (Nat.le_trans hS hb23.size) hw4.below.size
    obtain ⟨c0, c1, c2, c3⟩ := hH4.out.bx
    have HP4 := Lib.hid (pow_base HP1.out (Nat.succ_pos g) HW.out.below)
    clear hb2 hb3 hw4 hb23
    go_wp2_with (go_at_call 13; (refine (write_nl (g + 1) (g + 1) _ _ HW.out.bd (by simp only [List.nil_append, Array.length_toList]; show (headT n wd).size + 1 ≤ _; omega) hsz).mono ?_); rintro e w9 ⟨rfl, hw9⟩; have HW9 := Lib.hid (HW.out.trans hw9); have hsz9 := Nat.le_trans hsz hw9.below.size; have hH9 := Lib.hid (HA.wr hH4.out hw9); obtain ⟨f0, f1, f2, f3⟩ := hH9.out.bx; clear hw9)
    have HB0 := Lib.hid hb0
    clear hb0 c0 c1 c2 c3 f0 f1 f2 f3 HW HP4 hsz hsz9
    go_loopg [36] ls.length (fun q v36 wr => ∃ (i : Nat), i ≤ ls.length ∧ v36 = .int .i64 i ∧ q = ls.length - i ∧ Hid (Wr (g + 1) (g + 1) ((headT n wd).data.toList ++ [10] ++ linesT (ls.take i)) w1 wr))
    case atStart => exact ⟨0, Nat.zero_le _, rfl, rfl, Lib.hid (by have h := HW9.out; simpa [linesT] using h)⟩
    case round =>
      obtain ⟨i, hi, rfl, hq, HWr⟩ := hrel
      have HQ := Lib.hid hq
      clear hq
      have HBr := Lib.hid (HB0.out.trans (HWr.out.below.mono (show w.heap.size ≤ g + 1 by omega)))
      have hsr : g + 1 ≤ wr.heap.size := Nat.le_trans hS HWr.out.below.size
      by_cases hil : i < ls.length
      · obtain ⟨x, hx⟩ : ∃ x, ls[i]? = some x := ⟨ls[i]'hil, List.getElem?_eq_getElem hil⟩
        obtain ⟨a, rfl, x0, x1, x2⟩ := HL.out i x hx
        have y0 := cell_keeps HBr.out _ _ x0
        have y1 := cell_keeps HBr.out _ _ x1
        have y2 := cell_keeps HBr.out _ _ x2
        clear x0 x1 x2
        have hlt : (i : Int) < (ls.length : Int) := by omega
        have hlen : ls.length ≤ 1048576 := HO.out.1
        have hdec : decide ((i : Int) < (ls.length : Int)) = true := decide_eq_true hlt
        have hu31 := Tryd.underlying31
        have hX : ((headT n wd).data.toList ++ [10] ++ linesT (ls.take i)).length ≤ 70000000000000 := by
          have h1 := linesT_length HO.out i (by omega)
          have h3 : (headT n wd).data.toList.length = (headT n wd).size := Array.length_toList
          simp only [List.length_append, List.length_cons, List.length_nil]
          omega
        obtain ⟨z0, ⟨z1, z2⟩, z3, z4⟩ := HO.out.2 i x hx
        have hba := Lib.hid (Below.alloc (Below.refl wr.heap.size wr) (Nat.le_refl _) (.cells #[.string x.s, .int .i64 x.q, .int .i64 x.p] 31))
        have HD := Lib.hid (HWr.out.bd.below hba.out)
        have HPr := Lib.hid (pow_below (pow_base HP1.out (Nat.succ_pos g) HWr.out.below) hba.out)
        go_wp2_with (go_at_call 14; (with_reducible refine (shopping_calls (g + 1) (g + 1) _ x.s x.q z1 z2 x.p z3 z4 _ HPr.out HD.out (Nat.succ_pos g) (Nat.le_trans hsr hba.out.size) z0 hX).mono ?_); rintro e w5 ⟨rfl, hw5⟩; have HW5 := Lib.hid (HWr.out.trans (hw5.after hba.out hsr)); clear hw5)
        go_roundg (ls.length - (i + 1))
        case measure => have := HQ.out; omega
        case rel => exact ⟨i + 1, by omega, by first | rfl | simp, rfl, Lib.hid (by have h := HW5.out; rw [linesT_take ls i x hx, ← List.append_assoc]; exact h)⟩
      · obtain rfl : i = ls.length := by omega
        have hdec : decide ((ls.length : Int) < (ls.length : Int)) = false := decide_eq_false (by omega)
        go_wp2_with (go_at_call 15; (with_reducible refine (Tryd.Builder_String_any (g + 1) (g + 1) _ _ HWr.out.bd hsr).mono ?_); rintro e w6 ⟨rfl, hb6⟩; have HB6 := Lib.hid hb6; clear hb6)
        go_ret
        refine ⟨?_, HBr.out.trans (HB6.out.mono (show w.heap.size ≤ g + 1 by omega))⟩
        simp only [List.append_assoc, List.cons_append, List.nil_append]
        rfl
set_option maxHeartbeats 4000000 in
set_option maxRecDepth 100000 in
theorem Tell_01 (n : Int) (n0 : -9223372036854775808 ≤ n) (n1 : n ≤ 9223372036854775807) (st : Int) (m : Int) (m0 : -9223372036854775808 ≤ m) (m1 : m ≤ 9223372036854775807) (mn : m ≠ 0) (wd : ByteArray) (hwd : wd.size ≤ 40) (h5 : ∀ w, Pow w → Calls Tryd.prog 5 #[.int .i64 st] w fun r w' => r = .returned (.string wd) ∧ Below w.heap.size w w')
    (A : Option Addr) (ls : List Ln) (c : Nat) (hok : LnOks ls) (w : World) (hp : Pow w) (hL : LnsAt w A ls) :
    Calls Tryd.prog 7 #[.int .i64 n, .agg #[.int .i64 st, .slice A ls.length c, .int .i64 0, .int .i64 m]] w fun e w' => e = .returned (.string ⟨((headT n wd).data.toList ++ (msgS m).data.toList ++ [10] ++ linesT ls).toArray⟩) ∧ Below w.heap.size w w' := by
  have hn := Lib.itoa_length_le n n0 n1
  have ho1 : ¬ (9223372036854775807 < (Lib.itoa n).length + 1) := by omega
  have ho2 : ¬ (9223372036854775807 < (Lib.itoa n).length + 1 + wd.size) := by omega
  have hml := Lib.itoa_length_le m m0 m1
  have hmn : (m != 0) = true := by rw [bne_iff_ne]; exact mn
  have ho6 : ¬ (9223372036854775807 < 9 + (Lib.itoa m).length) := by omega
  have hz6 := msgS_size m m0 m1
  have hz0 := headT_size n wd n0 n1 hwd
  have HO := Lib.hid hok
  have HL := Lib.hid hL
  have HP := Lib.hid hp
  have H5 := Lib.hid h5
  clear hok hL h5 hn hp hml mn
  go_enter Tryd.func7, Tryd.ntmps7
  go_wp2
  obtain ⟨g, hg⟩ : ∃ g, w.heap.size = g := ⟨_, rfl⟩
  have hb0 : Below w.heap.size w ((w.alloc (.cells #[.int .i64 st, .slice A ls.length c, .int .i64 0, .int .i64 m] 28)).alloc (.cells #[.pointer none, .slice none 0 0] 40)) := ((Below.refl w.heap.size w).alloc (Nat.le_refl _) _).alloc (by simp) _
  have hH : HA w.heap.size st 0 m A ls.length c ((w.alloc (.cells #[.int .i64 st, .slice A ls.length c, .int .i64 0, .int .i64 m] 28)).alloc (.cells #[.pointer none, .slice none 0 0] 40)) := (Lib.alloc_old (w.alloc (.cells #[.int .i64 st, .slice A ls.length c, .int .i64 0, .int .i64 m] 28)) _ w.heap.size (by simp)).trans (heap_alloc_new w _)
  have hD := Lib.hid (bd_new w (.cells #[.int .i64 st, .slice A ls.length c, .int .i64 0, .int .i64 m] 28) g hg)
  have hS : g + 1 ≤ ((w.alloc (.cells #[.int .i64 st, .slice A ls.length c, .int .i64 0, .int .i64 m] 28)).alloc (.cells #[.pointer none, .slice none 0 0] 40)).heap.size := by simp [← hg]
  generalize ((w.alloc (.cells #[.int .i64 st, .slice A ls.length c, .int .i64 0, .int .i64 m] 28)).alloc (.cells #[.pointer none, .slice none 0 0] 40)) = w1 at hb0 hH hD hS ⊢
  rw [hg] at hH ⊢
  have HP1 := Lib.hid (pow_below HP.out hb0)
  have HL1 := Lib.hid (HL.out.below hb0)
  go_region_held3 (fun w' => w'.cell? ⟨g, 0, none⟩ = some (.int .i64 st) ∧ w'.cell? ⟨g, 1, none⟩ = some (.slice A ls.length c) ∧ w'.cell? ⟨g, 2, none⟩ = some (.int .i64 0) ∧ w'.cell? ⟨g, 3, none⟩ = some (.int .i64 m))
    (first | exact hH.bx | exact hH.drew.bx | exact hH4.out.bx | exact hH3.out.bx | exact hH2.out.bx)
    (first
      | (go_at_call 9; refine (itoa_calls n n0 n1 _ (Pow.drew HP1.out)).mono ?_; rintro e w2 ⟨rfl, hb2⟩; have HB2 := Lib.hid hb2; have hH2 := Lib.hid (HA.below (HA.drew hH) hb2))
      | (go_at_call 5; refine (H5.out _ (pow_below (Pow.drew HP1.out) HB2.out)).mono ?_; rintro e w3 ⟨rfl, hb3⟩; have HB3 := Lib.hid hb3; have hH3 := Lib.hid (HA.below hH2.out hb3))
      | (go_at_call 12; refine (write_str (g + 1) (g + 1) [] (headT n wd) _ (((Bd.drew hD.out).below HB2.out).below HB3.out) (by simp only [List.length_nil]; omega) (Nat.le_trans (Nat.le_trans hS HB2.out.size) HB3.out.size)).mono ?_; rintro e w4 ⟨rfl, hw4⟩; have HW4 := Lib.hid hw4; have hH4 := Lib.hid (HA.wr hH3.out hw4)))
  all_goals
    have hb23 : Below w1.heap.size w1 w3 := ((Below.drew (Below.refl _ _)).trans hb2).trans (hb3.mono HB2.out.size)
    have HW := Lib.hid (hw4.after hb23 hS)
    have hsz : g + 1 ≤ w4.heap.size := Nat.le_trans (Nat.le_trans hS hb23.size) hw4.below.size
    obtain ⟨c0, c1, c2, c3⟩ := hH4.out.bx
    have HP4 := Lib.hid (pow_base HP1.out (Nat.succ_pos g) HW.out.below)
    clear hb2 hb3 hw4 hb23
    go_wp2_with (first
      | (go_at_call 12; (refine (write_str (g + 1) (g + 1) _ (msgS m) _ (HW.out.bd.below HB6.out) (by simp only [List.nil_append, Array.length_toList]; show (headT n wd).size + (msgS m).size ≤ _; omega) (Nat.le_trans hsz HB6.out.size)).mono ?_); rintro e w6b ⟨rfl, hw6⟩; have HW6 := Lib.hid (HW.out.trans (hw6.after HB6.out hsz)); have hsz6 := Nat.le_trans (Nat.le_trans hsz HB6.out.size) hw6.below.size; have hHb6 := Lib.hid (HA.wr hHa6.out hw6); obtain ⟨r6a, r6b, r6c, r6d⟩ := hHb6.out.bx; have HPb6 := Lib.hid (pow_base HP1.out (Nat.succ_pos g) HW6.out.below); clear hw6)
      | (go_at_call 9; (with_reducible refine (itoa_calls m m0 m1 _ HP4.out).mono ?_); rintro e w6a ⟨rfl, hb6⟩; have HB6 := Lib.hid hb6; have hHa6 := Lib.hid (HA.below hH4.out hb6); obtain ⟨p6a, p6b, p6c, p6d⟩ := hHa6.out.bx; clear hb6)
      | (go_at_call 13; (refine (write_nl (g + 1) (g + 1) _ _ HW6.out.bd (by simp only [len2, List.nil_append, Array.length_toList]; show (headT n wd).size + (msgS m).size + 1 ≤ _; omega) hsz6).mono ?_); rintro e w9 ⟨rfl, hw9⟩; have HW9 := Lib.hid (HW6.out.trans hw9); have hsz9 := Nat.le_trans hsz6 hw9.below.size; have hH9 := Lib.hid (HA.wr hHb6.out hw9); obtain ⟨f0, f1, f2, f3⟩ := hH9.out.bx; clear hw9))
    have HB0 := Lib.hid hb0
    clear hb0 c0 c1 c2 c3 f0 f1 f2 f3 HW HP4 hsz hsz9 p6a p6b p6c p6d r6a r6b r6c r6d HW6 hsz6 HPb6
    go_loopg [36] ls.length (fun q v36 wr => ∃ (i : Nat), i ≤ ls.length ∧ v36 = .int .i64 i ∧ q = ls.length - i ∧ Hid (Wr (g + 1) (g + 1) ((headT n wd).data.toList ++ (msgS m).data.toList ++ [10] ++ linesT (ls.take i)) w1 wr))
    case atStart => exact ⟨0, Nat.zero_le _, rfl, rfl, Lib.hid (by have h := HW9.out; simpa [linesT] using h)⟩
    case round =>
      obtain ⟨i, hi, rfl, hq, HWr⟩ := hrel
      have HQ := Lib.hid hq
      clear hq
      have HBr := Lib.hid (HB0.out.trans (HWr.out.below.mono (show w.heap.size ≤ g + 1 by omega)))
      have hsr : g + 1 ≤ wr.heap.size := Nat.le_trans hS HWr.out.below.size
      by_cases hil : i < ls.length
      · obtain ⟨x, hx⟩ : ∃ x, ls[i]? = some x := ⟨ls[i]'hil, List.getElem?_eq_getElem hil⟩
        obtain ⟨a, rfl, x0, x1, x2⟩ := HL.out i x hx
        have y0 := cell_keeps HBr.out _ _ x0
        have y1 := cell_keeps HBr.out _ _ x1
        have y2 := cell_keeps HBr.out _ _ x2
        clear x0 x1 x2
        have hlt : (i : Int) < (ls.length : Int) := by omega
        have hlen : ls.length ≤ 1048576 := HO.out.1
        have hdec : decide ((i : Int) < (ls.length : Int)) = true := decide_eq_true hlt
        have hu31 := Tryd.underlying31
        have hX : ((headT n wd).data.toList ++ (msgS m).data.toList ++ [10] ++ linesT (ls.take i)).length ≤ 70000000000000 := by
          have h1 := linesT_length HO.out i (by omega)
          have h3 : (headT n wd).data.toList.length = (headT n wd).size := Array.length_toList
          have h6' : (msgS m).data.toList.length = (msgS m).size := Array.length_toList
          simp only [List.length_append, List.length_cons, List.length_nil]
          omega
        obtain ⟨z0, ⟨z1, z2⟩, z3, z4⟩ := HO.out.2 i x hx
        have hba := Lib.hid (Below.alloc (Below.refl wr.heap.size wr) (Nat.le_refl _) (.cells #[.string x.s, .int .i64 x.q, .int .i64 x.p] 31))
        have HD := Lib.hid (HWr.out.bd.below hba.out)
        have HPr := Lib.hid (pow_below (pow_base HP1.out (Nat.succ_pos g) HWr.out.below) hba.out)
        go_wp2_with (go_at_call 14; (with_reducible refine (shopping_calls (g + 1) (g + 1) _ x.s x.q z1 z2 x.p z3 z4 _ HPr.out HD.out (Nat.succ_pos g) (Nat.le_trans hsr hba.out.size) z0 hX).mono ?_); rintro e w5 ⟨rfl, hw5⟩; have HW5 := Lib.hid (HWr.out.trans (hw5.after hba.out hsr)); clear hw5)
        go_roundg (ls.length - (i + 1))
        case measure => have := HQ.out; omega
        case rel => exact ⟨i + 1, by omega, by first | rfl | simp, rfl, Lib.hid (by have h := HW5.out; rw [linesT_take ls i x hx, ← List.append_assoc]; exact h)⟩
      · obtain rfl : i = ls.length := by omega
        have hdec : decide ((ls.length : Int) < (ls.length : Int)) = false := decide_eq_false (by omega)
        go_wp2_with (go_at_call 15; (with_reducible refine (Tryd.Builder_String_any (g + 1) (g + 1) _ _ HWr.out.bd hsr).mono ?_); rintro e w6 ⟨rfl, hb6⟩; have HB6 := Lib.hid hb6; clear hb6)
        go_ret
        refine ⟨?_, HBr.out.trans (HB6.out.mono (show w.heap.size ≤ g + 1 by omega))⟩
        simp only [List.append_assoc, List.cons_append, List.nil_append]
        rfl
set_option maxHeartbeats 4000000 in
set_option maxRecDepth 100000 in
theorem Tell_10 (n : Int) (n0 : -9223372036854775808 ≤ n) (n1 : n ≤ 9223372036854775807) (st : Int) (t : Int) (t0 : -9223372036854775808 ≤ t) (t1 : t ≤ 9223372036854775807) (tn : t ≠ 0) (wd : ByteArray) (hwd : wd.size ≤ 40) (h5 : ∀ w, Pow w → Calls Tryd.prog 5 #[.int .i64 st] w fun r w' => r = .returned (.string wd) ∧ Below w.heap.size w w')
    (A : Option Addr) (ls : List Ln) (c : Nat) (hok : LnOks ls) (w : World) (hp : Pow w) (hL : LnsAt w A ls) :
    Calls Tryd.prog 7 #[.int .i64 n, .agg #[.int .i64 st, .slice A ls.length c, .int .i64 t, .int .i64 0]] w fun e w' => e = .returned (.string ⟨((headT n wd).data.toList ++ (tokS t).data.toList ++ [10] ++ linesT ls).toArray⟩) ∧ Below w.heap.size w w' := by
  have hn := Lib.itoa_length_le n n0 n1
  have ho1 : ¬ (9223372036854775807 < (Lib.itoa n).length + 1) := by omega
  have ho2 : ¬ (9223372036854775807 < (Lib.itoa n).length + 1 + wd.size) := by omega
  have htl := Lib.itoa_length_le t t0 t1
  have htn : (t != 0) = true := by rw [bne_iff_ne]; exact tn
  have ho4 : ¬ (9223372036854775807 < 7 + (Lib.itoa t).length) := by omega
  have hz5 := tokS_size t t0 t1
  have hz0 := headT_size n wd n0 n1 hwd
  have HO := Lib.hid hok
  have HL := Lib.hid hL
  have HP := Lib.hid hp
  have H5 := Lib.hid h5
  clear hok hL h5 hn hp htl tn
  go_enter Tryd.func7, Tryd.ntmps7
  go_wp2
  obtain ⟨g, hg⟩ : ∃ g, w.heap.size = g := ⟨_, rfl⟩
  have hb0 : Below w.heap.size w ((w.alloc (.cells #[.int .i64 st, .slice A ls.length c, .int .i64 t, .int .i64 0] 28)).alloc (.cells #[.pointer none, .slice none 0 0] 40)) := ((Below.refl w.heap.size w).alloc (Nat.le_refl _) _).alloc (by simp) _
  have hH : HA w.heap.size st t 0 A ls.length c ((w.alloc (.cells #[.int .i64 st, .slice A ls.length c, .int .i64 t, .int .i64 0] 28)).alloc (.cells #[.pointer none, .slice none 0 0] 40)) := (Lib.alloc_old (w.alloc (.cells #[.int .i64 st, .slice A ls.length c, .int .i64 t, .int .i64 0] 28)) _ w.heap.size (by simp)).trans (heap_alloc_new w _)
  have hD := Lib.hid (bd_new w (.cells #[.int .i64 st, .slice A ls.length c, .int .i64 t, .int .i64 0] 28) g hg)
  have hS : g + 1 ≤ ((w.alloc (.cells #[.int .i64 st, .slice A ls.length c, .int .i64 t, .int .i64 0] 28)).alloc (.cells #[.pointer none, .slice none 0 0] 40)).heap.size := by simp [← hg]
  generalize ((w.alloc (.cells #[.int .i64 st, .slice A ls.length c, .int .i64 t, .int .i64 0] 28)).alloc (.cells #[.pointer none, .slice none 0 0] 40)) = w1 at hb0 hH hD hS ⊢
  rw [hg] at hH ⊢
  have HP1 := Lib.hid (pow_below HP.out hb0)
  have HL1 := Lib.hid (HL.out.below hb0)
  go_region_held3 (fun w' => w'.cell? ⟨g, 0, none⟩ = some (.int .i64 st) ∧ w'.cell? ⟨g, 1, none⟩ = some (.slice A ls.length c) ∧ w'.cell? ⟨g, 2, none⟩ = some (.int .i64 t) ∧ w'.cell? ⟨g, 3, none⟩ = some (.int .i64 0))
    (first | exact hH.bx | exact hH.drew.bx | exact hH4.out.bx | exact hH3.out.bx | exact hH2.out.bx)
    (first
      | (go_at_call 9; refine (itoa_calls n n0 n1 _ (Pow.drew HP1.out)).mono ?_; rintro e w2 ⟨rfl, hb2⟩; have HB2 := Lib.hid hb2; have hH2 := Lib.hid (HA.below (HA.drew hH) hb2))
      | (go_at_call 5; refine (H5.out _ (pow_below (Pow.drew HP1.out) HB2.out)).mono ?_; rintro e w3 ⟨rfl, hb3⟩; have HB3 := Lib.hid hb3; have hH3 := Lib.hid (HA.below hH2.out hb3))
      | (go_at_call 12; refine (write_str (g + 1) (g + 1) [] (headT n wd) _ (((Bd.drew hD.out).below HB2.out).below HB3.out) (by simp only [List.length_nil]; omega) (Nat.le_trans (Nat.le_trans hS HB2.out.size) HB3.out.size)).mono ?_; rintro e w4 ⟨rfl, hw4⟩; have HW4 := Lib.hid hw4; have hH4 := Lib.hid (HA.wr hH3.out hw4)))
  all_goals
    have hb23 : Below w1.heap.size w1 w3 := ((Below.drew (Below.refl _ _)).trans hb2).trans (hb3.mono HB2.out.size)
    have HW := Lib.hid (hw4.after hb23 hS)
    have hsz : g + 1 ≤ w4.heap.size := Nat.le_trans (Nat.le_trans hS hb23.size) hw4.below.size
    obtain ⟨c0, c1, c2, c3⟩ := hH4.out.bx
    have HP4 := Lib.hid (pow_base HP1.out (Nat.succ_pos g) HW.out.below)
    clear hb2 hb3 hw4 hb23
    go_wp2_with (first
      | (go_at_call 12; (refine (write_str (g + 1) (g + 1) _ (tokS t) _ (HW.out.bd.below HB5.out) (by simp only [List.nil_append, Array.length_toList]; show (headT n wd).size + (tokS t).size ≤ _; omega) (Nat.le_trans hsz HB5.out.size)).mono ?_); rintro e w5b ⟨rfl, hw5⟩; have HW5 := Lib.hid (HW.out.trans (hw5.after HB5.out hsz)); have hsz5 := Nat.le_trans (Nat.le_trans hsz HB5.out.size) hw5.below.size; have hHb5 := Lib.hid (HA.wr hHa5.out hw5); obtain ⟨r5a, r5b, r5c, r5d⟩ := hHb5.out.bx; have HPb5 := Lib.hid (pow_base HP1.out (Nat.succ_pos g) HW5.out.below); clear hw5)
      | (go_at_call 9; (with_reducible refine (itoa_calls t t0 t1 _ HP4.out).mono ?_); rintro e w5a ⟨rfl, hb5⟩; have HB5 := Lib.hid hb5; have hHa5 := Lib.hid (HA.below hH4.out hb5); obtain ⟨p5a, p5b, p5c, p5d⟩ := hHa5.out.bx; clear hb5)
      | (go_at_call 13; (refine (write_nl (g + 1) (g + 1) _ _ HW5.out.bd (by simp only [len2, List.nil_append, Array.length_toList]; show (headT n wd).size + (tokS t).size + 1 ≤ _; omega) hsz5).mono ?_); rintro e w9 ⟨rfl, hw9⟩; have HW9 := Lib.hid (HW5.out.trans hw9); have hsz9 := Nat.le_trans hsz5 hw9.below.size; have hH9 := Lib.hid (HA.wr hHb5.out hw9); obtain ⟨f0, f1, f2, f3⟩ := hH9.out.bx; clear hw9))
    have HB0 := Lib.hid hb0
    clear hb0 c0 c1 c2 c3 f0 f1 f2 f3 HW HP4 hsz hsz9 p5a p5b p5c p5d r5a r5b r5c r5d HW5 hsz5 HPb5
    go_loopg [36] ls.length (fun q v36 wr => ∃ (i : Nat), i ≤ ls.length ∧ v36 = .int .i64 i ∧ q = ls.length - i ∧ Hid (Wr (g + 1) (g + 1) ((headT n wd).data.toList ++ (tokS t).data.toList ++ [10] ++ linesT (ls.take i)) w1 wr))
    case atStart => exact ⟨0, Nat.zero_le _, rfl, rfl, Lib.hid (by have h := HW9.out; simpa [linesT] using h)⟩
    case round =>
      obtain ⟨i, hi, rfl, hq, HWr⟩ := hrel
      have HQ := Lib.hid hq
      clear hq
      have HBr := Lib.hid (HB0.out.trans (HWr.out.below.mono (show w.heap.size ≤ g + 1 by omega)))
      have hsr : g + 1 ≤ wr.heap.size := Nat.le_trans hS HWr.out.below.size
      by_cases hil : i < ls.length
      · obtain ⟨x, hx⟩ : ∃ x, ls[i]? = some x := ⟨ls[i]'hil, List.getElem?_eq_getElem hil⟩
        obtain ⟨a, rfl, x0, x1, x2⟩ := HL.out i x hx
        have y0 := cell_keeps HBr.out _ _ x0
        have y1 := cell_keeps HBr.out _ _ x1
        have y2 := cell_keeps HBr.out _ _ x2
        clear x0 x1 x2
        have hlt : (i : Int) < (ls.length : Int) := by omega
        have hlen : ls.length ≤ 1048576 := HO.out.1
        have hdec : decide ((i : Int) < (ls.length : Int)) = true := decide_eq_true hlt
        have hu31 := Tryd.underlying31
        have hX : ((headT n wd).data.toList ++ (tokS t).data.toList ++ [10] ++ linesT (ls.take i)).length ≤ 70000000000000 := by
          have h1 := linesT_length HO.out i (by omega)
          have h3 : (headT n wd).data.toList.length = (headT n wd).size := Array.length_toList
          have h5' : (tokS t).data.toList.length = (tokS t).size := Array.length_toList
          simp only [List.length_append, List.length_cons, List.length_nil]
          omega
        obtain ⟨z0, ⟨z1, z2⟩, z3, z4⟩ := HO.out.2 i x hx
        have hba := Lib.hid (Below.alloc (Below.refl wr.heap.size wr) (Nat.le_refl _) (.cells #[.string x.s, .int .i64 x.q, .int .i64 x.p] 31))
        have HD := Lib.hid (HWr.out.bd.below hba.out)
        have HPr := Lib.hid (pow_below (pow_base HP1.out (Nat.succ_pos g) HWr.out.below) hba.out)
        go_wp2_with (go_at_call 14; (with_reducible refine (shopping_calls (g + 1) (g + 1) _ x.s x.q z1 z2 x.p z3 z4 _ HPr.out HD.out (Nat.succ_pos g) (Nat.le_trans hsr hba.out.size) z0 hX).mono ?_); rintro e w5 ⟨rfl, hw5⟩; have HW5 := Lib.hid (HWr.out.trans (hw5.after hba.out hsr)); clear hw5)
        go_roundg (ls.length - (i + 1))
        case measure => have := HQ.out; omega
        case rel => exact ⟨i + 1, by omega, by first | rfl | simp, rfl, Lib.hid (by have h := HW5.out; rw [linesT_take ls i x hx, ← List.append_assoc]; exact h)⟩
      · obtain rfl : i = ls.length := by omega
        have hdec : decide ((ls.length : Int) < (ls.length : Int)) = false := decide_eq_false (by omega)
        go_wp2_with (go_at_call 15; (with_reducible refine (Tryd.Builder_String_any (g + 1) (g + 1) _ _ HWr.out.bd hsr).mono ?_); rintro e w6 ⟨rfl, hb6⟩; have HB6 := Lib.hid hb6; clear hb6)
        go_ret
        refine ⟨?_, HBr.out.trans (HB6.out.mono (show w.heap.size ≤ g + 1 by omega))⟩
        simp only [List.append_assoc, List.cons_append, List.nil_append]
        rfl
set_option maxHeartbeats 4000000 in
set_option maxRecDepth 100000 in
theorem Tell_11 (n : Int) (n0 : -9223372036854775808 ≤ n) (n1 : n ≤ 9223372036854775807) (st : Int) (t : Int) (t0 : -9223372036854775808 ≤ t) (t1 : t ≤ 9223372036854775807) (tn : t ≠ 0) (m : Int) (m0 : -9223372036854775808 ≤ m) (m1 : m ≤ 9223372036854775807) (mn : m ≠ 0) (wd : ByteArray) (hwd : wd.size ≤ 40) (h5 : ∀ w, Pow w → Calls Tryd.prog 5 #[.int .i64 st] w fun r w' => r = .returned (.string wd) ∧ Below w.heap.size w w')
    (A : Option Addr) (ls : List Ln) (c : Nat) (hok : LnOks ls) (w : World) (hp : Pow w) (hL : LnsAt w A ls) :
    Calls Tryd.prog 7 #[.int .i64 n, .agg #[.int .i64 st, .slice A ls.length c, .int .i64 t, .int .i64 m]] w fun e w' => e = .returned (.string ⟨((headT n wd).data.toList ++ (tokS t).data.toList ++ (msgS m).data.toList ++ [10] ++ linesT ls).toArray⟩) ∧ Below w.heap.size w w' := by
  have hn := Lib.itoa_length_le n n0 n1
  have ho1 : ¬ (9223372036854775807 < (Lib.itoa n).length + 1) := by omega
  have ho2 : ¬ (9223372036854775807 < (Lib.itoa n).length + 1 + wd.size) := by omega
  have htl := Lib.itoa_length_le t t0 t1
  have htn : (t != 0) = true := by rw [bne_iff_ne]; exact tn
  have ho4 : ¬ (9223372036854775807 < 7 + (Lib.itoa t).length) := by omega
  have hz5 := tokS_size t t0 t1
  have hml := Lib.itoa_length_le m m0 m1
  have hmn : (m != 0) = true := by rw [bne_iff_ne]; exact mn
  have ho6 : ¬ (9223372036854775807 < 9 + (Lib.itoa m).length) := by omega
  have hz6 := msgS_size m m0 m1
  have hz0 := headT_size n wd n0 n1 hwd
  have HO := Lib.hid hok
  have HL := Lib.hid hL
  have HP := Lib.hid hp
  have H5 := Lib.hid h5
  clear hok hL h5 hn hp htl tn hml mn
  go_enter Tryd.func7, Tryd.ntmps7
  go_wp2
  obtain ⟨g, hg⟩ : ∃ g, w.heap.size = g := ⟨_, rfl⟩
  have hb0 : Below w.heap.size w ((w.alloc (.cells #[.int .i64 st, .slice A ls.length c, .int .i64 t, .int .i64 m] 28)).alloc (.cells #[.pointer none, .slice none 0 0] 40)) := ((Below.refl w.heap.size w).alloc (Nat.le_refl _) _).alloc (by simp) _
  have hH : HA w.heap.size st t m A ls.length c ((w.alloc (.cells #[.int .i64 st, .slice A ls.length c, .int .i64 t, .int .i64 m] 28)).alloc (.cells #[.pointer none, .slice none 0 0] 40)) := (Lib.alloc_old (w.alloc (.cells #[.int .i64 st, .slice A ls.length c, .int .i64 t, .int .i64 m] 28)) _ w.heap.size (by simp)).trans (heap_alloc_new w _)
  have hD := Lib.hid (bd_new w (.cells #[.int .i64 st, .slice A ls.length c, .int .i64 t, .int .i64 m] 28) g hg)
  have hS : g + 1 ≤ ((w.alloc (.cells #[.int .i64 st, .slice A ls.length c, .int .i64 t, .int .i64 m] 28)).alloc (.cells #[.pointer none, .slice none 0 0] 40)).heap.size := by simp [← hg]
  generalize ((w.alloc (.cells #[.int .i64 st, .slice A ls.length c, .int .i64 t, .int .i64 m] 28)).alloc (.cells #[.pointer none, .slice none 0 0] 40)) = w1 at hb0 hH hD hS ⊢
  rw [hg] at hH ⊢
  have HP1 := Lib.hid (pow_below HP.out hb0)
  have HL1 := Lib.hid (HL.out.below hb0)
  go_region_held3 (fun w' => w'.cell? ⟨g, 0, none⟩ = some (.int .i64 st) ∧ w'.cell? ⟨g, 1, none⟩ = some (.slice A ls.length c) ∧ w'.cell? ⟨g, 2, none⟩ = some (.int .i64 t) ∧ w'.cell? ⟨g, 3, none⟩ = some (.int .i64 m))
    (first | exact hH.bx | exact hH.drew.bx | exact hH4.out.bx | exact hH3.out.bx | exact hH2.out.bx)
    (first
      | (go_at_call 9; refine (itoa_calls n n0 n1 _ (Pow.drew HP1.out)).mono ?_; rintro e w2 ⟨rfl, hb2⟩; have HB2 := Lib.hid hb2; have hH2 := Lib.hid (HA.below (HA.drew hH) hb2))
      | (go_at_call 5; refine (H5.out _ (pow_below (Pow.drew HP1.out) HB2.out)).mono ?_; rintro e w3 ⟨rfl, hb3⟩; have HB3 := Lib.hid hb3; have hH3 := Lib.hid (HA.below hH2.out hb3))
      | (go_at_call 12; refine (write_str (g + 1) (g + 1) [] (headT n wd) _ (((Bd.drew hD.out).below HB2.out).below HB3.out) (by simp only [List.length_nil]; omega) (Nat.le_trans (Nat.le_trans hS HB2.out.size) HB3.out.size)).mono ?_; rintro e w4 ⟨rfl, hw4⟩; have HW4 := Lib.hid hw4; have hH4 := Lib.hid (HA.wr hH3.out hw4)))
  all_goals
    have hb23 : Below w1.heap.size w1 w3 := ((Below.drew (Below.refl _ _)).trans hb2).trans (hb3.mono HB2.out.size)
    have HW := Lib.hid (hw4.after hb23 hS)
    have hsz : g + 1 ≤ w4.heap.size := Nat.le_trans (Nat.le_trans hS hb23.size) hw4.below.size
    obtain ⟨c0, c1, c2, c3⟩ := hH4.out.bx
    have HP4 := Lib.hid (pow_base HP1.out (Nat.succ_pos g) HW.out.below)
    clear hb2 hb3 hw4 hb23
    go_wp2_with (first
      | (go_at_call 12; (refine (write_str (g + 1) (g + 1) _ (msgS m) _ (HW5.out.bd.below HB6.out) (by simp only [len2, List.nil_append, Array.length_toList]; show (headT n wd).size + (tokS t).size + (msgS m).size ≤ _; omega) (Nat.le_trans hsz5 HB6.out.size)).mono ?_); rintro e w6b ⟨rfl, hw6⟩; have HW6 := Lib.hid (HW5.out.trans (hw6.after HB6.out hsz5)); have hsz6 := Nat.le_trans (Nat.le_trans hsz5 HB6.out.size) hw6.below.size; have hHb6 := Lib.hid (HA.wr hHa6.out hw6); obtain ⟨r6a, r6b, r6c, r6d⟩ := hHb6.out.bx; have HPb6 := Lib.hid (pow_base HP1.out (Nat.succ_pos g) HW6.out.below); clear hw6)
      | (go_at_call 9; (with_reducible refine (itoa_calls m m0 m1 _ HPb5.out).mono ?_); rintro e w6a ⟨rfl, hb6⟩; have HB6 := Lib.hid hb6; have hHa6 := Lib.hid (HA.below hHb5.out hb6); obtain ⟨p6a, p6b, p6c, p6d⟩ := hHa6.out.bx; clear hb6)
      | (go_at_call 12; (refine (write_str (g + 1) (g + 1) _ (tokS t) _ (HW.out.bd.below HB5.out) (by simp only [List.nil_append, Array.length_toList]; show (headT n wd).size + (tokS t).size ≤ _; omega) (Nat.le_trans hsz HB5.out.size)).mono ?_); rintro e w5b ⟨rfl, hw5⟩; have HW5 := Lib.hid (HW.out.trans (hw5.after HB5.out hsz)); have hsz5 := Nat.le_trans (Nat.le_trans hsz HB5.out.size) hw5.below.size; have hHb5 := Lib.hid (HA.wr hHa5.out hw5); obtain ⟨r5a, r5b, r5c, r5d⟩ := hHb5.out.bx; have HPb5 := Lib.hid (pow_base HP1.out (Nat.succ_pos g) HW5.out.below); clear hw5)
      | (go_at_call 9; (with_reducible refine (itoa_calls t t0 t1 _ HP4.out).mono ?_); rintro e w5a ⟨rfl, hb5⟩; have HB5 := Lib.hid hb5; have hHa5 := Lib.hid (HA.below hH4.out hb5); obtain ⟨p5a, p5b, p5c, p5d⟩ := hHa5.out.bx; clear hb5)
      | (go_at_call 13; (refine (write_nl (g + 1) (g + 1) _ _ HW6.out.bd (by simp only [len2, List.nil_append, Array.length_toList]; show (headT n wd).size + (tokS t).size + (msgS m).size + 1 ≤ _; omega) hsz6).mono ?_); rintro e w9 ⟨rfl, hw9⟩; have HW9 := Lib.hid (HW6.out.trans hw9); have hsz9 := Nat.le_trans hsz6 hw9.below.size; have hH9 := Lib.hid (HA.wr hHb6.out hw9); obtain ⟨f0, f1, f2, f3⟩ := hH9.out.bx; clear hw9))
    have HB0 := Lib.hid hb0
    clear hb0 c0 c1 c2 c3 f0 f1 f2 f3 HW HP4 hsz hsz9 p5a p5b p5c p5d r5a r5b r5c r5d HW5 hsz5 HPb5 p6a p6b p6c p6d r6a r6b r6c r6d HW6 hsz6 HPb6
    go_loopg [36] ls.length (fun q v36 wr => ∃ (i : Nat), i ≤ ls.length ∧ v36 = .int .i64 i ∧ q = ls.length - i ∧ Hid (Wr (g + 1) (g + 1) ((headT n wd).data.toList ++ (tokS t).data.toList ++ (msgS m).data.toList ++ [10] ++ linesT (ls.take i)) w1 wr))
    case atStart => exact ⟨0, Nat.zero_le _, rfl, rfl, Lib.hid (by have h := HW9.out; simpa [linesT] using h)⟩
    case round =>
      obtain ⟨i, hi, rfl, hq, HWr⟩ := hrel
      have HQ := Lib.hid hq
      clear hq
      have HBr := Lib.hid (HB0.out.trans (HWr.out.below.mono (show w.heap.size ≤ g + 1 by omega)))
      have hsr : g + 1 ≤ wr.heap.size := Nat.le_trans hS HWr.out.below.size
      by_cases hil : i < ls.length
      · obtain ⟨x, hx⟩ : ∃ x, ls[i]? = some x := ⟨ls[i]'hil, List.getElem?_eq_getElem hil⟩
        obtain ⟨a, rfl, x0, x1, x2⟩ := HL.out i x hx
        have y0 := cell_keeps HBr.out _ _ x0
        have y1 := cell_keeps HBr.out _ _ x1
        have y2 := cell_keeps HBr.out _ _ x2
        clear x0 x1 x2
        have hlt : (i : Int) < (ls.length : Int) := by omega
        have hlen : ls.length ≤ 1048576 := HO.out.1
        have hdec : decide ((i : Int) < (ls.length : Int)) = true := decide_eq_true hlt
        have hu31 := Tryd.underlying31
        have hX : ((headT n wd).data.toList ++ (tokS t).data.toList ++ (msgS m).data.toList ++ [10] ++ linesT (ls.take i)).length ≤ 70000000000000 := by
          have h1 := linesT_length HO.out i (by omega)
          have h3 : (headT n wd).data.toList.length = (headT n wd).size := Array.length_toList
          have h5' : (tokS t).data.toList.length = (tokS t).size := Array.length_toList
          have h6' : (msgS m).data.toList.length = (msgS m).size := Array.length_toList
          simp only [List.length_append, List.length_cons, List.length_nil]
          omega
        obtain ⟨z0, ⟨z1, z2⟩, z3, z4⟩ := HO.out.2 i x hx
        have hba := Lib.hid (Below.alloc (Below.refl wr.heap.size wr) (Nat.le_refl _) (.cells #[.string x.s, .int .i64 x.q, .int .i64 x.p] 31))
        have HD := Lib.hid (HWr.out.bd.below hba.out)
        have HPr := Lib.hid (pow_below (pow_base HP1.out (Nat.succ_pos g) HWr.out.below) hba.out)
        go_wp2_with (go_at_call 14; (with_reducible refine (shopping_calls (g + 1) (g + 1) _ x.s x.q z1 z2 x.p z3 z4 _ HPr.out HD.out (Nat.succ_pos g) (Nat.le_trans hsr hba.out.size) z0 hX).mono ?_); rintro e w5 ⟨rfl, hw5⟩; have HW5 := Lib.hid (HWr.out.trans (hw5.after hba.out hsr)); clear hw5)
        go_roundg (ls.length - (i + 1))
        case measure => have := HQ.out; omega
        case rel => exact ⟨i + 1, by omega, by first | rfl | simp, rfl, Lib.hid (by have h := HW5.out; rw [linesT_take ls i x hx, ← List.append_assoc]; exact h)⟩
      · obtain rfl : i = ls.length := by omega
        have hdec : decide ((ls.length : Int) < (ls.length : Int)) = false := decide_eq_false (by omega)
        go_wp2_with (go_at_call 15; (with_reducible refine (Tryd.Builder_String_any (g + 1) (g + 1) _ _ HWr.out.bd hsr).mono ?_); rintro e w6 ⟨rfl, hb6⟩; have HB6 := Lib.hid hb6; clear hb6)
        go_ret
        refine ⟨?_, HBr.out.trans (HB6.out.mono (show w.heap.size ≤ g + 1 by omega))⟩
        simp only [List.append_assoc, List.cons_append, List.nil_append]
        rfl
theorem Tell_calls (n : Int) (n0 : -9223372036854775808 ≤ n) (n1 : n ≤ 9223372036854775807) (st : Int) (t : Int) (t0 : -9223372036854775808 ≤ t) (t1 : t ≤ 9223372036854775807) (m : Int) (m0 : -9223372036854775808 ≤ m) (m1 : m ≤ 9223372036854775807) (wd : ByteArray) (hwd : wd.size ≤ 40) (h5 : ∀ w, Pow w → Calls Tryd.prog 5 #[.int .i64 st] w fun r w' => r = .returned (.string wd) ∧ Below w.heap.size w w')
    (A : Option Addr) (ls : List Ln) (c : Nat) (hok : LnOks ls) (w : World) (hp : Pow w) (hL : LnsAt w A ls) :
    Calls Tryd.prog 7 #[.int .i64 n, .agg #[.int .i64 st, .slice A ls.length c, .int .i64 t, .int .i64 m]] w fun e w' => e = .returned (.string ⟨(tellT n wd t m ls).toArray⟩) ∧ Below w.heap.size w w' := by
  unfold tellT
  by_cases ht : t = 0
  · subst ht
    by_cases hm : m = 0
    · subst hm
      simp only [if_true, List.append_nil]
      exact Tell_00 n n0 n1 st wd hwd h5 A ls c hok w hp hL
    · simp only [if_true, List.append_nil, if_neg hm]
      exact Tell_01 n n0 n1 st m m0 m1 hm wd hwd h5 A ls c hok w hp hL
  · by_cases hm : m = 0
    · subst hm
      simp only [if_true, List.append_nil, if_neg ht]
      exact Tell_10 n n0 n1 st t t0 t1 ht wd hwd h5 A ls c hok w hp hL
    · simp only [if_neg ht, if_neg hm]
      exact Tell_11 n n0 n1 st t t0 t1 ht m m0 m1 hm wd hwd h5 A ls c hok w hp hL
end Go.Proofs.YtdgcmihnbkamgaaDoor
