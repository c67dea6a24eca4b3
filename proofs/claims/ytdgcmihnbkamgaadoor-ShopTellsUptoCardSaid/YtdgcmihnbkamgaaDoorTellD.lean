/- The document's Tell: an answer's text. Condition: at most 2^20 lines, each name no longer than 2^20. -/
import Derived.Test.YtdgcmihnbkamgaaDoorTellC
import Derived.Test.YtdgcmihnbkamgaaDoorWordS
namespace Go.Proofs.YtdgcmihnbkamgaaDoor
open Go.RowKit
set_option linter.unusedVariables false
attribute [local go_sem ↓] Go.wp_at_zero Go.wp_at_succ
structure Ln where
  s : ByteArray
  q : Int
  p : Int
def LnOk (x : Ln) : Prop := x.s.size ≤ 1048576 ∧ (-9223372036854775808 ≤ x.q ∧ x.q ≤ 9223372036854775807) ∧ (-9223372036854775808 ≤ x.p ∧ x.p ≤ 9223372036854775807)
def LnOks (ls : List Ln) : Prop := ls.length ≤ 1048576 ∧ ∀ (i : Nat) (x : Ln), ls[i]? = some x → LnOk x
/-- The lines lie from A on. -/
def LnsAt (w : World) (A : Option Addr) (ls : List Ln) : Prop := ∀ (i : Nat) (x : Ln), ls[i]? = some x → ∃ a, A = some a ∧ w.cell? (a.add (i * 3)) = some (.string x.s) ∧ w.cell? ⟨(a.add (i * 3)).block, (a.add (i * 3)).off + 1, none⟩ = some (.int .i64 x.q) ∧ w.cell? ⟨(a.add (i * 3)).block, (a.add (i * 3)).off + 2, none⟩ = some (.int .i64 x.p)
theorem LnsAt.of {w w' : World} {A : Option Addr} {ls : List Ln} (h : LnsAt w A ls) (hc : ∀ (p : Addr) v, w.cell? p = some v → w'.cell? p = some v) : LnsAt w' A ls := by
  intro i x hx
  obtain ⟨a, ha, h0, h1, h2⟩ := h i x hx
  exact ⟨a, ha, hc _ _ h0, hc _ _ h1, hc _ _ h2⟩
theorem cell_keeps {w w' : World} (hb : Below w.heap.size w w') (p : Addr) (v : Value) (h : w.cell? p = some v) : w'.cell? p = some v := (hb.cell (World.block_lt_of_cell? w p h)).trans h
theorem LnsAt.below {w w' : World} {A : Option Addr} {ls : List Ln} (h : LnsAt w A ls) (hb : Below w.heap.size w w') : LnsAt w' A ls := h.of (cell_keeps hb)
def linesT (ls : List Ln) : List UInt8 := ls.flatMap fun x => lineT x.s x.q x.p
theorem linesT_take (ls : List Ln) (i : Nat) (x : Ln) (h : ls[i]? = some x) : linesT (ls.take (i + 1)) = linesT (ls.take i) ++ lineT x.s x.q x.p := by
  have e : ls.take (i + 1) = ls.take i ++ [x] := by
    rw [List.take_add_one, h]
    rfl
  rw [e]
  simp [linesT]
theorem linesT_length {ls : List Ln} (h : LnOks ls) : ∀ i, i ≤ ls.length → (linesT (ls.take i)).length ≤ i * 1048626 := by
  intro i
  induction i with
  | zero => intro _; simp [linesT]
  | succ i ih =>
    intro hi
    obtain ⟨x, hx⟩ : ∃ x, ls[i]? = some x := ⟨ls[i]'(by omega), List.getElem?_eq_getElem (by omega)⟩
    obtain ⟨h1, ⟨h2, h3⟩, h4, h5⟩ := h.2 i x hx
    have hl := lineT_length x.s x.q x.p h2 h3 h4 h5
    have := ih (by omega)
    rw [linesT_take ls i x hx, List.length_append]
    omega
def headT (n : Int) (wd : ByteArray) : ByteArray := (⟨(Lib.itoa n).toArray⟩ : ByteArray) ++ ⟨#[32]⟩ ++ wd
theorem headT_size (n : Int) (wd : ByteArray) (n0 : -9223372036854775808 ≤ n) (n1 : n ≤ 9223372036854775807) (hw : wd.size ≤ 40) : (headT n wd).size ≤ 70 := by
  have := Lib.itoa_length_le n n0 n1
  unfold headT
  simp only [ByteArray.size_append]
  show (Lib.itoa n).toArray.size + 1 + wd.size ≤ _
  rw [List.size_toArray]
  omega
def tokS (t : Int) : ByteArray := (⟨#[32, 116, 111, 107, 101, 110, 32]⟩ : ByteArray) ++ ⟨(Lib.itoa t).toArray⟩
def msgS (m : Int) : ByteArray := (⟨#[32, 109, 101, 115, 115, 97, 103, 101, 32]⟩ : ByteArray) ++ ⟨(Lib.itoa m).toArray⟩
def HA (g : Nat) (st t m : Int) (A : Option Addr) (n c : Nat) (w : World) : Prop := w.heap[g]? = some (.cells #[.int .i64 st, .slice A n c, .int .i64 t, .int .i64 m] 28 (0, 0))
theorem HA.drew {g : Nat} {st t m : Int} {A : Option Addr} {n c : Nat} {w : World} (h : HA g st t m A n c w) : HA g st t m A n c w.drew := h
theorem HA.below {g : Nat} {st t m : Int} {A : Option Addr} {n c : Nat} {w w' : World} (h : HA g st t m A n c w) (hb : Below w.heap.size w w') : HA g st t m A n c w' := (hb.block g (heap_lt h)).trans h
theorem HA.kp {g b : Nat} {st t m : Int} {A : Option Addr} {n c : Nat} {w w' : World} (h : HA g st t m A n c w) (hb : Kp b w w') (hne : g ≠ b) : HA g st t m A n c w' := hb g _ _ _ h (by decide) hne
theorem HA.bx {g : Nat} {st t m : Int} {A : Option Addr} {n c : Nat} {w : World} (h : HA g st t m A n c w) : w.cell? ⟨g, 0, none⟩ = some (.int .i64 st) ∧ w.cell? ⟨g, 1, none⟩ = some (.slice A n c) ∧ w.cell? ⟨g, 2, none⟩ = some (.int .i64 t) ∧ w.cell? ⟨g, 3, none⟩ = some (.int .i64 m) :=
  ⟨by rw [Lib.cell_of_heap h]; rfl, by rw [Lib.cell_of_heap h]; rfl, by rw [Lib.cell_of_heap h]; rfl, by rw [Lib.cell_of_heap h]; rfl⟩
theorem tokS_size (q : Int) (q0 : -9223372036854775808 ≤ q) (q1 : q ≤ 9223372036854775807) : (tokS q).size ≤ 30 := by
  have := Lib.itoa_length_le q q0 q1
  unfold tokS
  simp only [ByteArray.size_append]
  show 7 + (Lib.itoa q).toArray.size ≤ _
  rw [List.size_toArray]
  omega
theorem msgS_size (q : Int) (q0 : -9223372036854775808 ≤ q) (q1 : q ≤ 9223372036854775807) : (msgS q).size ≤ 30 := by
  have := Lib.itoa_length_le q q0 q1
  unfold msgS
  simp only [ByteArray.size_append]
  show 9 + (Lib.itoa q).toArray.size ≤ _
  rw [List.size_toArray]
  omega
set_option maxHeartbeats 4000000 in
set_option maxRecDepth 100000 in
theorem refTell_00 (n : Int) (n0 : -9223372036854775808 ≤ n) (n1 : n ≤ 9223372036854775807) (st : Int) (wd : ByteArray) (hwd : wd.size ≤ 40) (h6 : ∀ w, Calls Tryd.prog 6 #[.int .i64 st] w fun r w' => r = .returned (.string wd) ∧ Below w.heap.size w w')
    (A : Option Addr) (ls : List Ln) (c : Nat) (hok : LnOks ls) (w : World) (hL : LnsAt w A ls) :
    Calls Tryd.prog 8 #[.int .i64 n, .agg #[.int .i64 st, .slice A ls.length c, .int .i64 0, .int .i64 0]] w fun e w' => e = .returned (.string ⟨((headT n wd).data.toList ++ [10] ++ linesT ls).toArray⟩) ∧ Below w.heap.size w w' := by
  have hn := Lib.itoa_length_le n n0 n1
  have ho1 : ¬ (9223372036854775807 < (Lib.itoa n).length + 1) := by omega
  have ho2 : ¬ (9223372036854775807 < (Lib.itoa n).length + 1 + wd.size) := by omega
  have ho3 : ¬ (9223372036854775807 < (Lib.itoa n).length + 1 + wd.size + 1) := by omega
  have HO := Lib.hid hok
  have HL := Lib.hid hL
  have H6 := Lib.hid h6
  clear hok hL h6 hn
  go_enter Tryd.func8, Tryd.ntmps8
  go_wp2
  have hb0 := Below.alloc (Below.refl w.heap.size w) (Nat.le_refl _) (.cells #[.int .i64 st, .slice A ls.length c, .int .i64 0, .int .i64 0] 28)
  have hH : HA w.heap.size st 0 0 A ls.length c (w.alloc (.cells #[.int .i64 st, .slice A ls.length c, .int .i64 0, .int .i64 0] 28)) := heap_alloc_new w _
  obtain ⟨g, hg⟩ : ∃ g, w.heap.size = g := ⟨_, rfl⟩
  generalize (w.alloc (.cells #[.int .i64 st, .slice A ls.length c, .int .i64 0, .int .i64 0] 28)) = w1 at hb0 hH ⊢
  rw [hg] at hH ⊢
  go_region_held3 (fun w' => w'.cell? ⟨g, 0, none⟩ = some (.int .i64 st) ∧ w'.cell? ⟨g, 1, none⟩ = some (.slice A ls.length c) ∧ w'.cell? ⟨g, 2, none⟩ = some (.int .i64 0) ∧ w'.cell? ⟨g, 3, none⟩ = some (.int .i64 0))
    (first | exact hH.bx | exact hH.drew.bx | exact hH3.out.bx | exact hH2.out.bx)
    (first
      | (go_at_call 11; refine (number_calls n n0 n1 _).mono ?_; rintro e w2 ⟨rfl, hb2⟩; have HB2 := Lib.hid hb2; have hH2 := Lib.hid (HA.below (HA.drew hH) hb2))
      | (go_at_call 6; refine (H6.out _).mono ?_; rintro e w3 ⟨rfl, hb3⟩; have HB3 := Lib.hid hb3; have hH3 := Lib.hid (HA.below hH2.out hb3)))
  all_goals
    have HB := Lib.hid (hb0.trans ((((Below.drew (Below.refl _ _)).trans hb2).trans (hb3.mono HB2.out.size)).mono hb0.size))
    obtain ⟨c0, c1, c2, c3⟩ := hH3.out.bx
    clear hb2 hb3 hb0
    go_wp2
    have hX : ∃ X : ByteArray, X = (headT n wd) ++ ⟨#[10]⟩ := ⟨_, rfl⟩
    go_loopg [5, 38] ls.length (fun q v5 v38 wr => ∃ (i : Nat) (X : ByteArray), i ≤ ls.length ∧ v38 = .int .i64 i ∧ v5 = .string X ∧ Hid (X.data.toList = (headT n wd).data.toList ++ [10] ++ linesT (ls.take i)) ∧ q = ls.length - i ∧ Hid (Below w.heap.size w wr))
    case atStart => exact ⟨0, _, Nat.zero_le _, rfl, rfl, Lib.hid (by simp [linesT, headT]), rfl, HB⟩
    case round =>
      obtain ⟨i, X, hi, rfl, rfl, HX, hq, HBr⟩ := hrel
      have HQ := Lib.hid hq
      clear hq
      by_cases hil : i < ls.length
      · obtain ⟨x, hx⟩ : ∃ x, ls[i]? = some x := ⟨ls[i]'hil, List.getElem?_eq_getElem hil⟩
        obtain ⟨a, rfl, x0, x1, x2⟩ := HL.out i x hx
        have y0 := cell_keeps HBr.out _ _ x0
        have y1 := cell_keeps HBr.out _ _ x1
        have y2 := cell_keeps HBr.out _ _ x2
        clear x0 x1 x2
        have hlt : (i : Int) < (ls.length : Int) := by omega
        have hlen : ls.length ≤ 1048576 := HO.out.1
        have hdec : decide ((i : Int) < (ls.length : Int)) = true := decide_eq_true hlt
        have hu31 := Tryd.underlying31
        have hX : X.size ≤ 1100000000000 := by
          have h1 := linesT_length HO.out i (by omega)
          have h2 : X.data.toList.length = X.size := Array.length_toList
          rw [← h2, HX.out]
          have h3 : (headT n wd).data.toList.length = (headT n wd).size := Array.length_toList
          have h4 : (headT n wd).size ≤ 70 := headT_size n wd n0 n1 hwd
          simp only [List.length_append, List.length_cons, List.length_nil]
          omega
        obtain ⟨z0, ⟨z1, z2⟩, z3, z4⟩ := HO.out.2 i x hx
        have z5 := lineT_length x.s x.q x.p z1 z2 z3 z4
        have hov : ¬ (9223372036854775807 < X.size + (lineT x.s x.q x.p).length) := by omega
        have HZ := Lib.hid z5
        clear z5
        go_wp2_with (go_at_call 16; (with_reducible refine (Shopping_calls x.s x.q z1 z2 x.p z3 z4 _ z0).mono ?_); rintro e w4 ⟨rfl, hb4⟩; have HB4 := Lib.hid hb4; clear hb4)
        go_roundg (ls.length - (i + 1))
        case measure => have := HQ.out; omega
        case rel =>
          refine ⟨i + 1, _, by omega, by first | rfl | simp, rfl, Lib.hid ?_, rfl, Lib.hid ?_⟩
          · rw [ByteArray.data_append, Array.toList_append, HX.out, linesT_take ls i x hx]
            simp
          · refine HBr.out.trans ?_
            exact ((Below.refl w.heap.size wr).alloc HBr.out.size _).trans (HB4.out.mono (by have := HBr.out.size; simp; omega))
      · obtain rfl : i = ls.length := by omega
        have hdec : decide ((ls.length : Int) < (ls.length : Int)) = false := decide_eq_false (by omega)
        go_wp2
        go_ret
        refine ⟨ret_str ?_, HBr.out⟩
        apply ByteArray.ext
        apply Array.toList_inj.1
        rw [HX.out, List.take_length]
set_option maxHeartbeats 4000000 in
set_option maxRecDepth 100000 in
theorem refTell_01 (n : Int) (n0 : -9223372036854775808 ≤ n) (n1 : n ≤ 9223372036854775807) (st : Int) (m : Int) (m0 : -9223372036854775808 ≤ m) (m1 : m ≤ 9223372036854775807) (mn : m ≠ 0) (wd : ByteArray) (hwd : wd.size ≤ 40) (h6 : ∀ w, Calls Tryd.prog 6 #[.int .i64 st] w fun r w' => r = .returned (.string wd) ∧ Below w.heap.size w w')
    (A : Option Addr) (ls : List Ln) (c : Nat) (hok : LnOks ls) (w : World) (hL : LnsAt w A ls) :
    Calls Tryd.prog 8 #[.int .i64 n, .agg #[.int .i64 st, .slice A ls.length c, .int .i64 0, .int .i64 m]] w fun e w' => e = .returned (.string ⟨((headT n wd).data.toList ++ (msgS m).data.toList ++ [10] ++ linesT ls).toArray⟩) ∧ Below w.heap.size w w' := by
  have hn := Lib.itoa_length_le n n0 n1
  have ho1 : ¬ (9223372036854775807 < (Lib.itoa n).length + 1) := by omega
  have ho2 : ¬ (9223372036854775807 < (Lib.itoa n).length + 1 + wd.size) := by omega
  have hml := Lib.itoa_length_le m m0 m1
  have hmn : (m != 0) = true := by rw [bne_iff_ne]; exact mn
  have ho6 : ¬ (9223372036854775807 < 9 + (Lib.itoa m).length) := by omega
  have ho7 : ¬ (9223372036854775807 < (Lib.itoa n).length + 1 + wd.size + (9 + (Lib.itoa m).length)) := by omega
  have ho3 : ¬ (9223372036854775807 < (Lib.itoa n).length + 1 + wd.size + (9 + (Lib.itoa m).length) + 1) := by omega
  have HO := Lib.hid hok
  have HL := Lib.hid hL
  have H6 := Lib.hid h6
  clear hok hL h6 hn hml mn
  go_enter Tryd.func8, Tryd.ntmps8
  go_wp2
  have hb0 := Below.alloc (Below.refl w.heap.size w) (Nat.le_refl _) (.cells #[.int .i64 st, .slice A ls.length c, .int .i64 0, .int .i64 m] 28)
  have hH : HA w.heap.size st 0 m A ls.length c (w.alloc (.cells #[.int .i64 st, .slice A ls.length c, .int .i64 0, .int .i64 m] 28)) := heap_alloc_new w _
  obtain ⟨g, hg⟩ : ∃ g, w.heap.size = g := ⟨_, rfl⟩
  generalize (w.alloc (.cells #[.int .i64 st, .slice A ls.length c, .int .i64 0, .int .i64 m] 28)) = w1 at hb0 hH ⊢
  rw [hg] at hH ⊢
  go_region_held3 (fun w' => w'.cell? ⟨g, 0, none⟩ = some (.int .i64 st) ∧ w'.cell? ⟨g, 1, none⟩ = some (.slice A ls.length c) ∧ w'.cell? ⟨g, 2, none⟩ = some (.int .i64 0) ∧ w'.cell? ⟨g, 3, none⟩ = some (.int .i64 m))
    (first | exact hH.bx | exact hH.drew.bx | exact hH3.out.bx | exact hH2.out.bx)
    (first
      | (go_at_call 11; refine (number_calls n n0 n1 _).mono ?_; rintro e w2 ⟨rfl, hb2⟩; have HB2 := Lib.hid hb2; have hH2 := Lib.hid (HA.below (HA.drew hH) hb2))
      | (go_at_call 6; refine (H6.out _).mono ?_; rintro e w3 ⟨rfl, hb3⟩; have HB3 := Lib.hid hb3; have hH3 := Lib.hid (HA.below hH2.out hb3)))
  all_goals
    have HB := Lib.hid (hb0.trans ((((Below.drew (Below.refl _ _)).trans hb2).trans (hb3.mono HB2.out.size)).mono hb0.size))
    obtain ⟨c0, c1, c2, c3⟩ := hH3.out.bx
    clear hb2 hb3 hb0
    go_wp2_with (first | (go_at_call 11; (with_reducible refine (number_calls m m0 m1 _).mono ?_); rintro e w6 ⟨rfl, hb6⟩; have hH6 := Lib.hid (HA.below hH3.out hb6); obtain ⟨i0, i1, i2, i3⟩ := hH6.out.bx; have HB6 := Lib.hid (HB.out.trans (hb6.mono HB.out.size)); clear hb6))
    have hX : ∃ X : ByteArray, X = (headT n wd) ++ ⟨#[10]⟩ := ⟨_, rfl⟩
    go_loopg [5, 38] ls.length (fun q v5 v38 wr => ∃ (i : Nat) (X : ByteArray), i ≤ ls.length ∧ v38 = .int .i64 i ∧ v5 = .string X ∧ Hid (X.data.toList = (headT n wd).data.toList ++ (msgS m).data.toList ++ [10] ++ linesT (ls.take i)) ∧ q = ls.length - i ∧ Hid (Below w.heap.size w wr))
    case atStart => exact ⟨0, _, Nat.zero_le _, rfl, rfl, Lib.hid (by simp [linesT, headT, msgS]), rfl, HB6⟩
    case round =>
      obtain ⟨i, X, hi, rfl, rfl, HX, hq, HBr⟩ := hrel
      have HQ := Lib.hid hq
      clear hq
      by_cases hil : i < ls.length
      · obtain ⟨x, hx⟩ : ∃ x, ls[i]? = some x := ⟨ls[i]'hil, List.getElem?_eq_getElem hil⟩
        obtain ⟨a, rfl, x0, x1, x2⟩ := HL.out i x hx
        have y0 := cell_keeps HBr.out _ _ x0
        have y1 := cell_keeps HBr.out _ _ x1
        have y2 := cell_keeps HBr.out _ _ x2
        clear x0 x1 x2
        have hlt : (i : Int) < (ls.length : Int) := by omega
        have hlen : ls.length ≤ 1048576 := HO.out.1
        have hdec : decide ((i : Int) < (ls.length : Int)) = true := decide_eq_true hlt
        have hu31 := Tryd.underlying31
        have hX : X.size ≤ 1100000000000 := by
          have h1 := linesT_length HO.out i (by omega)
          have h2 : X.data.toList.length = X.size := Array.length_toList
          rw [← h2, HX.out]
          have h3 : (headT n wd).data.toList.length = (headT n wd).size := Array.length_toList
          have h4 : (headT n wd).size ≤ 70 := headT_size n wd n0 n1 hwd
          have h6 := msgS_size m m0 m1
          have h6' : (msgS m).data.toList.length = (msgS m).size := Array.length_toList
          simp only [List.length_append, List.length_cons, List.length_nil]
          omega
        obtain ⟨z0, ⟨z1, z2⟩, z3, z4⟩ := HO.out.2 i x hx
        have z5 := lineT_length x.s x.q x.p z1 z2 z3 z4
        have hov : ¬ (9223372036854775807 < X.size + (lineT x.s x.q x.p).length) := by omega
        have HZ := Lib.hid z5
        clear z5
        go_wp2_with (go_at_call 16; (with_reducible refine (Shopping_calls x.s x.q z1 z2 x.p z3 z4 _ z0).mono ?_); rintro e w4 ⟨rfl, hb4⟩; have HB4 := Lib.hid hb4; clear hb4)
        go_roundg (ls.length - (i + 1))
        case measure => have := HQ.out; omega
        case rel =>
          refine ⟨i + 1, _, by omega, by first | rfl | simp, rfl, Lib.hid ?_, rfl, Lib.hid ?_⟩
          · rw [ByteArray.data_append, Array.toList_append, HX.out, linesT_take ls i x hx]
            simp
          · refine HBr.out.trans ?_
            exact ((Below.refl w.heap.size wr).alloc HBr.out.size _).trans (HB4.out.mono (by have := HBr.out.size; simp; omega))
      · obtain rfl : i = ls.length := by omega
        have hdec : decide ((ls.length : Int) < (ls.length : Int)) = false := decide_eq_false (by omega)
        go_wp2
        go_ret
        refine ⟨ret_str ?_, HBr.out⟩
        apply ByteArray.ext
        apply Array.toList_inj.1
        rw [HX.out, List.take_length]
set_option maxHeartbeats 4000000 in
set_option maxRecDepth 100000 in
theorem refTell_10 (n : Int) (n0 : -9223372036854775808 ≤ n) (n1 : n ≤ 9223372036854775807) (st : Int) (t : Int) (t0 : -9223372036854775808 ≤ t) (t1 : t ≤ 9223372036854775807) (tn : t ≠ 0) (wd : ByteArray) (hwd : wd.size ≤ 40) (h6 : ∀ w, Calls Tryd.prog 6 #[.int .i64 st] w fun r w' => r = .returned (.string wd) ∧ Below w.heap.size w w')
    (A : Option Addr) (ls : List Ln) (c : Nat) (hok : LnOks ls) (w : World) (hL : LnsAt w A ls) :
    Calls Tryd.prog 8 #[.int .i64 n, .agg #[.int .i64 st, .slice A ls.length c, .int .i64 t, .int .i64 0]] w fun e w' => e = .returned (.string ⟨((headT n wd).data.toList ++ (tokS t).data.toList ++ [10] ++ linesT ls).toArray⟩) ∧ Below w.heap.size w w' := by
  have hn := Lib.itoa_length_le n n0 n1
  have ho1 : ¬ (9223372036854775807 < (Lib.itoa n).length + 1) := by omega
  have ho2 : ¬ (9223372036854775807 < (Lib.itoa n).length + 1 + wd.size) := by omega
  have htl := Lib.itoa_length_le t t0 t1
  have htn : (t != 0) = true := by rw [bne_iff_ne]; exact tn
  have ho4 : ¬ (9223372036854775807 < 7 + (Lib.itoa t).length) := by omega
  have ho5 : ¬ (9223372036854775807 < (Lib.itoa n).length + 1 + wd.size + (7 + (Lib.itoa t).length)) := by omega
  have ho3 : ¬ (9223372036854775807 < (Lib.itoa n).length + 1 + wd.size + (7 + (Lib.itoa t).length) + 1) := by omega
  have HO := Lib.hid hok
  have HL := Lib.hid hL
  have H6 := Lib.hid h6
  clear hok hL h6 hn htl tn
  go_enter Tryd.func8, Tryd.ntmps8
  go_wp2
  have hb0 := Below.alloc (Below.refl w.heap.size w) (Nat.le_refl _) (.cells #[.int .i64 st, .slice A ls.length c, .int .i64 t, .int .i64 0] 28)
  have hH : HA w.heap.size st t 0 A ls.length c (w.alloc (.cells #[.int .i64 st, .slice A ls.length c, .int .i64 t, .int .i64 0] 28)) := heap_alloc_new w _
  obtain ⟨g, hg⟩ : ∃ g, w.heap.size = g := ⟨_, rfl⟩
  generalize (w.alloc (.cells #[.int .i64 st, .slice A ls.length c, .int .i64 t, .int .i64 0] 28)) = w1 at hb0 hH ⊢
  rw [hg] at hH ⊢
  go_region_held3 (fun w' => w'.cell? ⟨g, 0, none⟩ = some (.int .i64 st) ∧ w'.cell? ⟨g, 1, none⟩ = some (.slice A ls.length c) ∧ w'.cell? ⟨g, 2, none⟩ = some (.int .i64 t) ∧ w'.cell? ⟨g, 3, none⟩ = some (.int .i64 0))
    (first | exact hH.bx | exact hH.drew.bx | exact hH3.out.bx | exact hH2.out.bx)
    (first
      | (go_at_call 11; refine (number_calls n n0 n1 _).mono ?_; rintro e w2 ⟨rfl, hb2⟩; have HB2 := Lib.hid hb2; have hH2 := Lib.hid (HA.below (HA.drew hH) hb2))
      | (go_at_call 6; refine (H6.out _).mono ?_; rintro e w3 ⟨rfl, hb3⟩; have HB3 := Lib.hid hb3; have hH3 := Lib.hid (HA.below hH2.out hb3)))
  all_goals
    have HB := Lib.hid (hb0.trans ((((Below.drew (Below.refl _ _)).trans hb2).trans (hb3.mono HB2.out.size)).mono hb0.size))
    obtain ⟨c0, c1, c2, c3⟩ := hH3.out.bx
    clear hb2 hb3 hb0
    go_wp2_with (first | (go_at_call 11; (with_reducible refine (number_calls t t0 t1 _).mono ?_); rintro e w5 ⟨rfl, hb5⟩; have hH5 := Lib.hid (HA.below hH3.out hb5); obtain ⟨e0, e1, e2, e3⟩ := hH5.out.bx; have HB5 := Lib.hid (HB.out.trans (hb5.mono HB.out.size)); clear hb5))
    have hX : ∃ X : ByteArray, X = (headT n wd) ++ ⟨#[10]⟩ := ⟨_, rfl⟩
    go_loopg [5, 38] ls.length (fun q v5 v38 wr => ∃ (i : Nat) (X : ByteArray), i ≤ ls.length ∧ v38 = .int .i64 i ∧ v5 = .string X ∧ Hid (X.data.toList = (headT n wd).data.toList ++ (tokS t).data.toList ++ [10] ++ linesT (ls.take i)) ∧ q = ls.length - i ∧ Hid (Below w.heap.size w wr))
    case atStart => exact ⟨0, _, Nat.zero_le _, rfl, rfl, Lib.hid (by simp [linesT, headT, tokS]), rfl, HB5⟩
    case round =>
      obtain ⟨i, X, hi, rfl, rfl, HX, hq, HBr⟩ := hrel
      have HQ := Lib.hid hq
      clear hq
      by_cases hil : i < ls.length
      · obtain ⟨x, hx⟩ : ∃ x, ls[i]? = some x := ⟨ls[i]'hil, List.getElem?_eq_getElem hil⟩
        obtain ⟨a, rfl, x0, x1, x2⟩ := HL.out i x hx
        have y0 := cell_keeps HBr.out _ _ x0
        have y1 := cell_keeps HBr.out _ _ x1
        have y2 := cell_keeps HBr.out _ _ x2
        clear x0 x1 x2
        have hlt : (i : Int) < (ls.length : Int) := by omega
        have hlen : ls.length ≤ 1048576 := HO.out.1
        have hdec : decide ((i : Int) < (ls.length : Int)) = true := decide_eq_true hlt
        have hu31 := Tryd.underlying31
        have hX : X.size ≤ 1100000000000 := by
          have h1 := linesT_length HO.out i (by omega)
          have h2 : X.data.toList.length = X.size := Array.length_toList
          rw [← h2, HX.out]
          have h3 : (headT n wd).data.toList.length = (headT n wd).size := Array.length_toList
          have h4 : (headT n wd).size ≤ 70 := headT_size n wd n0 n1 hwd
          have h5 := tokS_size t t0 t1
          have h5' : (tokS t).data.toList.length = (tokS t).size := Array.length_toList
          simp only [List.length_append, List.length_cons, List.length_nil]
          omega
        obtain ⟨z0, ⟨z1, z2⟩, z3, z4⟩ := HO.out.2 i x hx
        have z5 := lineT_length x.s x.q x.p z1 z2 z3 z4
        have hov : ¬ (9223372036854775807 < X.size + (lineT x.s x.q x.p).length) := by omega
        have HZ := Lib.hid z5
        clear z5
        go_wp2_with (go_at_call 16; (with_reducible refine (Shopping_calls x.s x.q z1 z2 x.p z3 z4 _ z0).mono ?_); rintro e w4 ⟨rfl, hb4⟩; have HB4 := Lib.hid hb4; clear hb4)
        go_roundg (ls.length - (i + 1))
        case measure => have := HQ.out; omega
        case rel =>
          refine ⟨i + 1, _, by omega, by first | rfl | simp, rfl, Lib.hid ?_, rfl, Lib.hid ?_⟩
          · rw [ByteArray.data_append, Array.toList_append, HX.out, linesT_take ls i x hx]
            simp
          · refine HBr.out.trans ?_
            exact ((Below.refl w.heap.size wr).alloc HBr.out.size _).trans (HB4.out.mono (by have := HBr.out.size; simp; omega))
      · obtain rfl : i = ls.length := by omega
        have hdec : decide ((ls.length : Int) < (ls.length : Int)) = false := decide_eq_false (by omega)
        go_wp2
        go_ret
        refine ⟨ret_str ?_, HBr.out⟩
        apply ByteArray.ext
        apply Array.toList_inj.1
        rw [HX.out, List.take_length]
set_option maxHeartbeats 4000000 in
set_option maxRecDepth 100000 in
theorem refTell_11 (n : Int) (n0 : -9223372036854775808 ≤ n) (n1 : n ≤ 9223372036854775807) (st : Int) (t : Int) (t0 : -9223372036854775808 ≤ t) (t1 : t ≤ 9223372036854775807) (tn : t ≠ 0) (m : Int) (m0 : -9223372036854775808 ≤ m) (m1 : m ≤ 9223372036854775807) (mn : m ≠ 0) (wd : ByteArray) (hwd : wd.size ≤ 40) (h6 : ∀ w, Calls Tryd.prog 6 #[.int .i64 st] w fun r w' => r = .returned (.string wd) ∧ Below w.heap.size w w')
    (A : Option Addr) (ls : List Ln) (c : Nat) (hok : LnOks ls) (w : World) (hL : LnsAt w A ls) :
    Calls Tryd.prog 8 #[.int .i64 n, .agg #[.int .i64 st, .slice A ls.length c, .int .i64 t, .int .i64 m]] w fun e w' => e = .returned (.string ⟨((headT n wd).data.toList ++ (tokS t).data.toList ++ (msgS m).data.toList ++ [10] ++ linesT ls).toArray⟩) ∧ Below w.heap.size w w' := by
  have hn := Lib.itoa_length_le n n0 n1
  have ho1 : ¬ (9223372036854775807 < (Lib.itoa n).length + 1) := by omega
  have ho2 : ¬ (9223372036854775807 < (Lib.itoa n).length + 1 + wd.size) := by omega
  have htl := Lib.itoa_length_le t t0 t1
  have htn : (t != 0) = true := by rw [bne_iff_ne]; exact tn
  have ho4 : ¬ (9223372036854775807 < 7 + (Lib.itoa t).length) := by omega
  have ho5 : ¬ (9223372036854775807 < (Lib.itoa n).length + 1 + wd.size + (7 + (Lib.itoa t).length)) := by omega
  have hml := Lib.itoa_length_le m m0 m1
  have hmn : (m != 0) = true := by rw [bne_iff_ne]; exact mn
  have ho6 : ¬ (9223372036854775807 < 9 + (Lib.itoa m).length) := by omega
  have ho7 : ¬ (9223372036854775807 < (Lib.itoa n).length + 1 + wd.size + (7 + (Lib.itoa t).length) + (9 + (Lib.itoa m).length)) := by omega
  have ho3 : ¬ (9223372036854775807 < (Lib.itoa n).length + 1 + wd.size + (7 + (Lib.itoa t).length) + (9 + (Lib.itoa m).length) + 1) := by omega
  have HO := Lib.hid hok
  have HL := Lib.hid hL
  have H6 := Lib.hid h6
  clear hok hL h6 hn htl tn hml mn
  go_enter Tryd.func8, Tryd.ntmps8
  go_wp2
  have hb0 := Below.alloc (Below.refl w.heap.size w) (Nat.le_refl _) (.cells #[.int .i64 st, .slice A ls.length c, .int .i64 t, .int .i64 m] 28)
  have hH : HA w.heap.size st t m A ls.length c (w.alloc (.cells #[.int .i64 st, .slice A ls.length c, .int .i64 t, .int .i64 m] 28)) := heap_alloc_new w _
  obtain ⟨g, hg⟩ : ∃ g, w.heap.size = g := ⟨_, rfl⟩
  generalize (w.alloc (.cells #[.int .i64 st, .slice A ls.length c, .int .i64 t, .int .i64 m] 28)) = w1 at hb0 hH ⊢
  rw [hg] at hH ⊢
  go_region_held3 (fun w' => w'.cell? ⟨g, 0, none⟩ = some (.int .i64 st) ∧ w'.cell? ⟨g, 1, none⟩ = some (.slice A ls.length c) ∧ w'.cell? ⟨g, 2, none⟩ = some (.int .i64 t) ∧ w'.cell? ⟨g, 3, none⟩ = some (.int .i64 m))
    (first | exact hH.bx | exact hH.drew.bx | exact hH3.out.bx | exact hH2.out.bx)
    (first
      | (go_at_call 11; refine (number_calls n n0 n1 _).mono ?_; rintro e w2 ⟨rfl, hb2⟩; have HB2 := Lib.hid hb2; have hH2 := Lib.hid (HA.below (HA.drew hH) hb2))
      | (go_at_call 6; refine (H6.out _).mono ?_; rintro e w3 ⟨rfl, hb3⟩; have HB3 := Lib.hid hb3; have hH3 := Lib.hid (HA.below hH2.out hb3)))
  all_goals
    have HB := Lib.hid (hb0.trans ((((Below.drew (Below.refl _ _)).trans hb2).trans (hb3.mono HB2.out.size)).mono hb0.size))
    obtain ⟨c0, c1, c2, c3⟩ := hH3.out.bx
    clear hb2 hb3 hb0
    go_wp2_with (first | (go_at_call 11; (with_reducible refine (number_calls t t0 t1 _).mono ?_); rintro e w5 ⟨rfl, hb5⟩; have hH5 := Lib.hid (HA.below hH3.out hb5); obtain ⟨e0, e1, e2, e3⟩ := hH5.out.bx; have HB5 := Lib.hid (HB.out.trans (hb5.mono HB.out.size)); clear hb5) | (go_at_call 11; (with_reducible refine (number_calls m m0 m1 _).mono ?_); rintro e w6 ⟨rfl, hb6⟩; have hH6 := Lib.hid (HA.below hH5.out hb6); obtain ⟨i0, i1, i2, i3⟩ := hH6.out.bx; have HB6 := Lib.hid (HB5.out.trans (hb6.mono HB5.out.size)); clear hb6))
    have hX : ∃ X : ByteArray, X = (headT n wd) ++ ⟨#[10]⟩ := ⟨_, rfl⟩
    go_loopg [5, 38] ls.length (fun q v5 v38 wr => ∃ (i : Nat) (X : ByteArray), i ≤ ls.length ∧ v38 = .int .i64 i ∧ v5 = .string X ∧ Hid (X.data.toList = (headT n wd).data.toList ++ (tokS t).data.toList ++ (msgS m).data.toList ++ [10] ++ linesT (ls.take i)) ∧ q = ls.length - i ∧ Hid (Below w.heap.size w wr))
    case atStart => exact ⟨0, _, Nat.zero_le _, rfl, rfl, Lib.hid (by simp [linesT, headT, tokS, msgS]), rfl, HB6⟩
    case round =>
      obtain ⟨i, X, hi, rfl, rfl, HX, hq, HBr⟩ := hrel
      have HQ := Lib.hid hq
      clear hq
      by_cases hil : i < ls.length
      · obtain ⟨x, hx⟩ : ∃ x, ls[i]? = some x := ⟨ls[i]'hil, List.getElem?_eq_getElem hil⟩
        obtain ⟨a, rfl, x0, x1, x2⟩ := HL.out i x hx
        have y0 := cell_keeps HBr.out _ _ x0
        have y1 := cell_keeps HBr.out _ _ x1
        have y2 := cell_keeps HBr.out _ _ x2
        clear x0 x1 x2
        have hlt : (i : Int) < (ls.length : Int) := by omega
        have hlen : ls.length ≤ 1048576 := HO.out.1
        have hdec : decide ((i : Int) < (ls.length : Int)) = true := decide_eq_true hlt
        have hu31 := Tryd.underlying31
        have hX : X.size ≤ 1100000000000 := by
          have h1 := linesT_length HO.out i (by omega)
          have h2 : X.data.toList.length = X.size := Array.length_toList
          rw [← h2, HX.out]
          have h3 : (headT n wd).data.toList.length = (headT n wd).size := Array.length_toList
          have h4 : (headT n wd).size ≤ 70 := headT_size n wd n0 n1 hwd
          have h5 := tokS_size t t0 t1
          have h5' : (tokS t).data.toList.length = (tokS t).size := Array.length_toList
          have h6 := msgS_size m m0 m1
          have h6' : (msgS m).data.toList.length = (msgS m).size := Array.length_toList
          simp only [List.length_append, List.length_cons, List.length_nil]
          omega
        obtain ⟨z0, ⟨z1, z2⟩, z3, z4⟩ := HO.out.2 i x hx
        have z5 := lineT_length x.s x.q x.p z1 z2 z3 z4
        have hov : ¬ (9223372036854775807 < X.size + (lineT x.s x.q x.p).length) := by omega
        have HZ := Lib.hid z5
        clear z5
        go_wp2_with (go_at_call 16; (with_reducible refine (Shopping_calls x.s x.q z1 z2 x.p z3 z4 _ z0).mono ?_); rintro e w4 ⟨rfl, hb4⟩; have HB4 := Lib.hid hb4; clear hb4)
        go_roundg (ls.length - (i + 1))
        case measure => have := HQ.out; omega
        case rel =>
          refine ⟨i + 1, _, by omega, by first | rfl | simp, rfl, Lib.hid ?_, rfl, Lib.hid ?_⟩
          · rw [ByteArray.data_append, Array.toList_append, HX.out, linesT_take ls i x hx]
            simp
          · refine HBr.out.trans ?_
            exact ((Below.refl w.heap.size wr).alloc HBr.out.size _).trans (HB4.out.mono (by have := HBr.out.size; simp; omega))
      · obtain rfl : i = ls.length := by omega
        have hdec : decide ((ls.length : Int) < (ls.length : Int)) = false := decide_eq_false (by omega)
        go_wp2
        go_ret
        refine ⟨ret_str ?_, HBr.out⟩
        apply ByteArray.ext
        apply Array.toList_inj.1
        rw [HX.out, List.take_length]
-- GEN
/-- The text of an answer. -/
def tellT (n : Int) (wd : ByteArray) (t m : Int) (ls : List Ln) : List UInt8 := (headT n wd).data.toList ++ (if t = 0 then [] else (tokS t).data.toList) ++ (if m = 0 then [] else (msgS m).data.toList) ++ [10] ++ linesT ls
theorem refTell_calls (n : Int) (n0 : -9223372036854775808 ≤ n) (n1 : n ≤ 9223372036854775807) (st : Int) (t : Int) (t0 : -9223372036854775808 ≤ t) (t1 : t ≤ 9223372036854775807) (m : Int) (m0 : -9223372036854775808 ≤ m) (m1 : m ≤ 9223372036854775807) (wd : ByteArray) (hwd : wd.size ≤ 40) (h6 : ∀ w, Calls Tryd.prog 6 #[.int .i64 st] w fun r w' => r = .returned (.string wd) ∧ Below w.heap.size w w')
    (A : Option Addr) (ls : List Ln) (c : Nat) (hok : LnOks ls) (w : World) (hL : LnsAt w A ls) :
    Calls Tryd.prog 8 #[.int .i64 n, .agg #[.int .i64 st, .slice A ls.length c, .int .i64 t, .int .i64 m]] w fun e w' => e = .returned (.string ⟨(tellT n wd t m ls).toArray⟩) ∧ Below w.heap.size w w' := by
  unfold tellT
  by_cases ht : t = 0
  · subst ht
    by_cases hm : m = 0
    · subst hm
      simp only [if_true, List.append_nil]
      exact refTell_00 n n0 n1 st wd hwd h6 A ls c hok w hL
    · simp only [if_true, List.append_nil, if_neg hm]
      exact refTell_01 n n0 n1 st m m0 m1 hm wd hwd h6 A ls c hok w hL
  · by_cases hm : m = 0
    · subst hm
      simp only [if_true, List.append_nil, if_neg ht]
      exact refTell_10 n n0 n1 st t t0 t1 ht wd hwd h6 A ls c hok w hL
    · simp only [if_neg ht, if_neg hm]
      exact refTell_11 n n0 n1 st t t0 t1 ht m m0 m1 hm wd hwd h6 A ls c hok w hL
end Go.Proofs.YtdgcmihnbkamgaaDoor
