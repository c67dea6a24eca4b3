/- shop.shopping: one line's text goes behind what the builder holds. Condition: the table of powers of ten is laid; the text is no longer than 2^46. -/
import Derived.Test.YtdgcmihnbkamgaaDoorTellA
import Derived.Deep.RegionHeld3
import Derived.Deep.DrawnRows
namespace Go.Proofs.YtdgcmihnbkamgaaDoor
open Go.RowKit
set_option linter.unusedVariables false
attribute [local go_sem ↓] Go.wp_at_zero Go.wp_at_succ
def headS (s : ByteArray) (q : Int) : ByteArray := (⟨#[32, 32]⟩ : ByteArray) ++ s ++ ⟨#[32]⟩ ++ ⟨(Lib.itoa q).toArray⟩
def inS (p : Int) : ByteArray := (⟨#[32, 105, 110, 32]⟩ : ByteArray) ++ ⟨(Lib.itoa p).toArray⟩
theorem headS_size (s : ByteArray) (q : Int) (q0 : -9223372036854775808 ≤ q) (q1 : q ≤ 9223372036854775807) : (headS s q).size ≤ s.size + 24 := by
  have := Lib.itoa_length_le q q0 q1
  unfold headS
  simp only [ByteArray.size_append]
  show 2 + s.size + 1 + (Lib.itoa q).toArray.size ≤ _
  rw [List.size_toArray]
  omega
theorem inS_size (q : Int) (q0 : -9223372036854775808 ≤ q) (q1 : q ≤ 9223372036854775807) : (inS q).size ≤ 25 := by
  have := Lib.itoa_length_le q q0 q1
  unfold inS
  simp only [ByteArray.size_append]
  show 4 + (Lib.itoa q).toArray.size ≤ _
  rw [List.size_toArray]
  omega
/-- The line's box. -/
def Bx (g : Nat) (s : ByteArray) (q p : Int) (w : World) : Prop := w.cell? ⟨g, 0, none⟩ = some (.string s) ∧ w.cell? ⟨g, 1, none⟩ = some (.int .i64 q) ∧ w.cell? ⟨g, 2, none⟩ = some (.int .i64 p)
def Hp (g : Nat) (s : ByteArray) (q p : Int) (w : World) : Prop := w.heap[g]? = some (.cells #[.string s, .int .i64 q, .int .i64 p] 31 (0, 0))
theorem Hp.bx {g : Nat} {s : ByteArray} {q p : Int} {w : World} (h : Hp g s q p w) : w.cell? ⟨g, 0, none⟩ = some (.string s) ∧ w.cell? ⟨g, 1, none⟩ = some (.int .i64 q) ∧ w.cell? ⟨g, 2, none⟩ = some (.int .i64 p) :=
  ⟨by rw [Lib.cell_of_heap h]; rfl, by rw [Lib.cell_of_heap h]; rfl, by rw [Lib.cell_of_heap h]; rfl⟩
theorem Hp.below {g : Nat} {s : ByteArray} {q p : Int} {w w' : World} (h : Hp g s q p w) (hb : Below w.heap.size w w') : Hp g s q p w' := (hb.block g (heap_lt h)).trans h
theorem Hp.kp {g b : Nat} {s : ByteArray} {q p : Int} {w w' : World} (h : Hp g s q p w) (hb : Kp b w w') (hne : g ≠ b) : Hp g s q p w' := hb g _ _ _ h (by decide) hne
theorem Wr.after {B b : Nat} {l : List UInt8} {w w1 w2 : World} (hb : Below w.heap.size w w1) (hBw : B ≤ w.heap.size) (h : Wr B b l w1 w2) : Wr B b l w w2 := ⟨h.bd, (hb.mono hBw).trans h.below, (Kp.below hb).trans h.kp⟩
theorem Wr.trans {B b : Nat} {l l' : List UInt8} {w w1 w2 : World} (h : Wr B b l w w1) (h1 : Wr B b l' w1 w2) : Wr B b l' w w2 := ⟨h1.bd, h.below.trans h1.below, h.kp.trans h1.kp⟩
theorem Pow.drew {w : World} (h : Pow w) : Pow w.drew := h
theorem Hp.drew {g : Nat} {s : ByteArray} {q p : Int} {w : World} (h : Hp g s q p w) : Hp g s q p w.drew := h
theorem Bd.drew {B b : Nat} {l : List UInt8} {w : World} (h : Bd B b l w) : Bd B b l w.drew := h
set_option maxHeartbeats 4000000 in
set_option maxRecDepth 100000 in
theorem shopping_one (B b : Nat) (l : List UInt8) (s : ByteArray) (q : Int) (q0 : -9223372036854775808 ≤ q) (q1 : q ≤ 9223372036854775807) (w : World) (hp : Pow w) (h : Bd B b l w) (hB : 0 < B) (hBw : B ≤ w.heap.size) (hs : s.size ≤ 1048576) (hl : l.length ≤ 70000000000000) :
    Calls Tryd.prog 14 #[.pointer (some ⟨b, 0, none⟩), .agg #[.string s, .int .i64 q, .int .i64 1]] w fun e w' => e = .returned (.tuple #[]) ∧ Wr B b (l ++ (headS s q).data.toList ++ [10]) w w' := by
  have HP := Lib.hid hp
  have HD := Lib.hid h
  have hq := Lib.itoa_length_le q q0 q1
  have ho1 : ¬ (9223372036854775807 < 2 + s.size) := by omega
  have ho2 : ¬ (9223372036854775807 < 2 + s.size + 1) := by omega
  have ho3 : ¬ (9223372036854775807 < 2 + s.size + 1 + (Lib.itoa q).length) := by omega
  have hz1 := headS_size s q q0 q1
  clear hp h hq
  go_enter Tryd.func14, Tryd.ntmps14
  go_wp2
  have hb0 := Below.alloc (Below.refl w.heap.size w) (Nat.le_refl _) (.cells #[.string s, .int .i64 q, .int .i64 1] 31)
  have hH : Hp w.heap.size s q 1 (w.alloc (.cells #[.string s, .int .i64 q, .int .i64 1] 31)) := heap_alloc_new w _
  have HK := Lib.hid (Kp.below (b := b) hb0)
  have HP1 := Lib.hid (pow_below HP.out hb0)
  have HD1 := Lib.hid (HD.out.below hb0)
  have hne : w.heap.size ≠ b := fun e => by have := HD.out.lt; omega
  have hBw1 : B ≤ (w.alloc (.cells #[.string s, .int .i64 q, .int .i64 1] 31)).heap.size := Nat.le_trans hBw hb0.size
  obtain ⟨g, hg⟩ : ∃ g, w.heap.size = g := ⟨_, rfl⟩
  generalize (w.alloc (.cells #[.string s, .int .i64 q, .int .i64 1] 31)) = w1 at hb0 hH HK HP1 HD1 hBw1 ⊢
  rw [hg] at hH hne ⊢
  go_region_held3 (fun w' => w'.cell? ⟨g, 0, none⟩ = some (.string s) ∧ w'.cell? ⟨g, 1, none⟩ = some (.int .i64 q) ∧ w'.cell? ⟨g, 2, none⟩ = some (.int .i64 1))
    (first | exact hH.bx | exact hH.drew.bx | exact hH2.out.bx | exact hH3.out.bx)
    (first
      | (go_at_call 9; refine (itoa_calls q q0 q1 _ (Pow.drew HP1.out)).mono ?_; rintro e w2 ⟨rfl, hb2⟩; have HB2 := Lib.hid hb2; have hH2 := Lib.hid (Hp.below (Hp.drew hH) hb2))
      | (go_at_call 12; refine (write_str B b l (headS s q) _ ((Bd.drew HD1.out).below HB2.out) (by omega) (Nat.le_trans hBw1 HB2.out.size)).mono ?_; rintro e w3 ⟨rfl, hw3⟩; have HW3 := Lib.hid hw3; have hH3 := Lib.hid (Hp.kp hH2.out hw3.kp hne)))
  all_goals
    have hb2' : Below w1.heap.size w1 w2 := (Below.drew (Below.refl _ _)).trans hb2
    have HW := Lib.hid (((hw3.after hb2' hBw1).after hb0 hBw))
    have hsz : B ≤ w3.heap.size := Nat.le_trans (Nat.le_trans hBw1 HB2.out.size) hw3.below.size
    have hlen : (l ++ (headS s q).data.toList).length + 1 ≤ 140737488355328 := by
      rw [List.length_append, Array.length_toList]
      show l.length + (headS s q).size + 1 ≤ _
      omega
    obtain ⟨c0, c1, c2⟩ := hH3.out.bx
    clear hb2 hb2' hw3 hb0
    go_wp2_with (go_at_call 13; refine (write_nl B b _ _ HW.out.bd hlen hsz).mono ?_; rintro e w4 ⟨rfl, hw4⟩)
    go_end0
    exact ⟨rfl, HW.out.trans hw4⟩
set_option maxHeartbeats 4000000 in
set_option maxRecDepth 100000 in
theorem shopping_more (B b : Nat) (l : List UInt8) (s : ByteArray) (q : Int) (q0 : -9223372036854775808 ≤ q) (q1 : q ≤ 9223372036854775807) (p : Int) (p0 : -9223372036854775808 ≤ p) (p1 : p ≤ 9223372036854775807) (pn : p ≠ 1) (w : World) (hp : Pow w) (h : Bd B b l w) (hB : 0 < B) (hBw : B ≤ w.heap.size) (hs : s.size ≤ 1048576) (hl : l.length ≤ 70000000000000) :
    Calls Tryd.prog 14 #[.pointer (some ⟨b, 0, none⟩), .agg #[.string s, .int .i64 q, .int .i64 p]] w fun e w' => e = .returned (.tuple #[]) ∧ Wr B b (l ++ (headS s q).data.toList ++ (inS p).data.toList ++ [10]) w w' := by
  have HP := Lib.hid hp
  have HD := Lib.hid h
  have hq := Lib.itoa_length_le q q0 q1
  have ho1 : ¬ (9223372036854775807 < 2 + s.size) := by omega
  have ho2 : ¬ (9223372036854775807 < 2 + s.size + 1) := by omega
  have ho3 : ¬ (9223372036854775807 < 2 + s.size + 1 + (Lib.itoa q).length) := by omega
  have hz1 := headS_size s q q0 q1
  have hz2 := inS_size p p0 p1
  have hpi := Lib.itoa_length_le p p0 p1
  have ho4 : ¬ (9223372036854775807 < 4 + (Lib.itoa p).length) := by omega
  have hpn : (p != 1) = true := by rw [bne_iff_ne]; exact pn
  clear hpi pn
  clear hp h hq
  go_enter Tryd.func14, Tryd.ntmps14
  go_wp2
  have hb0 := Below.alloc (Below.refl w.heap.size w) (Nat.le_refl _) (.cells #[.string s, .int .i64 q, .int .i64 p] 31)
  have hH : Hp w.heap.size s q p (w.alloc (.cells #[.string s, .int .i64 q, .int .i64 p] 31)) := heap_alloc_new w _
  have HK := Lib.hid (Kp.below (b := b) hb0)
  have HP1 := Lib.hid (pow_below HP.out hb0)
  have HD1 := Lib.hid (HD.out.below hb0)
  have hne : w.heap.size ≠ b := fun e => by have := HD.out.lt; omega
  have hBw1 : B ≤ (w.alloc (.cells #[.string s, .int .i64 q, .int .i64 p] 31)).heap.size := Nat.le_trans hBw hb0.size
  obtain ⟨g, hg⟩ : ∃ g, w.heap.size = g := ⟨_, rfl⟩
  generalize (w.alloc (.cells #[.string s, .int .i64 q, .int .i64 p] 31)) = w1 at hb0 hH HK HP1 HD1 hBw1 ⊢
  rw [hg] at hH hne ⊢
  go_region_held3 (fun w' => w'.cell? ⟨g, 0, none⟩ = some (.string s) ∧ w'.cell? ⟨g, 1, none⟩ = some (.int .i64 q) ∧ w'.cell? ⟨g, 2, none⟩ = some (.int .i64 p))
    (first | exact hH.bx | exact hH.drew.bx | exact hH2.out.bx | exact hH3.out.bx)
    (first
      | (go_at_call 9; refine (itoa_calls q q0 q1 _ (Pow.drew HP1.out)).mono ?_; rintro e w2 ⟨rfl, hb2⟩; have HB2 := Lib.hid hb2; have hH2 := Lib.hid (Hp.below (Hp.drew hH) hb2))
      | (go_at_call 12; refine (write_str B b l (headS s q) _ ((Bd.drew HD1.out).below HB2.out) (by omega) (Nat.le_trans hBw1 HB2.out.size)).mono ?_; rintro e w3 ⟨rfl, hw3⟩; have HW3 := Lib.hid hw3; have hH3 := Lib.hid (Hp.kp hH2.out hw3.kp hne)))
  all_goals
    have hb2' : Below w1.heap.size w1 w2 := (Below.drew (Below.refl _ _)).trans hb2
    have HW := Lib.hid (((hw3.after hb2' hBw1).after hb0 hBw))
    have hsz : B ≤ w3.heap.size := Nat.le_trans (Nat.le_trans hBw1 HB2.out.size) hw3.below.size
    have hlen : (l ++ (headS s q).data.toList).length + (inS p).size ≤ 140737488355328 := by
      rw [List.length_append, Array.length_toList]
      show l.length + (headS s q).size + (inS p).size ≤ _
      omega
    have hlen2 : (l ++ (headS s q).data.toList ++ (inS p).data.toList).length + 1 ≤ 140737488355328 := by
      rw [List.length_append, List.length_append, Array.length_toList, Array.length_toList]
      show l.length + (headS s q).size + (inS p).size + 1 ≤ _
      omega
    obtain ⟨c0, c1, c2⟩ := hH3.out.bx
    have HP3 := Lib.hid (pow_base HP.out hB HW.out.below)
    clear hb2 hb2' hw3 hb0
    go_wp2_with (first
      | (go_at_call 9; (with_reducible refine (itoa_calls p p0 p1 _ HP3.out).mono ?_); rintro e w4 ⟨rfl, hb4⟩; have HB4 := Lib.hid hb4; clear hb4)
      | (go_at_call 12; (refine (write_str B b _ (inS p) _ (HW.out.bd.below HB4.out) hlen (Nat.le_trans hsz HB4.out.size)).mono ?_); rintro e w5 ⟨rfl, hw5⟩; have HW5 := Lib.hid (hw5.after HB4.out hsz); clear hw5)
      | (go_at_call 13; (refine (write_nl B b _ _ HW5.out.bd hlen2 (Nat.le_trans hsz HW5.out.below.size)).mono ?_); rintro e w6 ⟨rfl, hw6⟩))
    go_end0
    exact ⟨rfl, (HW.out.trans HW5.out).trans hw6⟩
/-- What a line adds. -/
def lineT (s : ByteArray) (q p : Int) : List UInt8 := (headS s q).data.toList ++ (if p = 1 then [] else (inS p).data.toList) ++ [10]
theorem lineT_length (s : ByteArray) (q p : Int) (q0 : -9223372036854775808 ≤ q) (q1 : q ≤ 9223372036854775807) (p0 : -9223372036854775808 ≤ p) (p1 : p ≤ 9223372036854775807) : (lineT s q p).length ≤ s.size + 50 := by
  have h1 : (headS s q).data.toList.length ≤ s.size + 24 := by rw [Array.length_toList]; exact headS_size s q q0 q1
  have h2 : (inS p).data.toList.length ≤ 25 := by rw [Array.length_toList]; exact inS_size p p0 p1
  unfold lineT
  split
  · simp only [List.length_append, List.length_nil, List.length_cons]; omega
  · simp only [List.length_append, List.length_nil, List.length_cons]; omega
theorem shopping_calls (B b : Nat) (l : List UInt8) (s : ByteArray) (q : Int) (q0 : -9223372036854775808 ≤ q) (q1 : q ≤ 9223372036854775807) (p : Int) (p0 : -9223372036854775808 ≤ p) (p1 : p ≤ 9223372036854775807) (w : World) (hp : Pow w) (h : Bd B b l w) (hB : 0 < B) (hBw : B ≤ w.heap.size) (hs : s.size ≤ 1048576) (hl : l.length ≤ 70000000000000) :
    Calls Tryd.prog 14 #[.pointer (some ⟨b, 0, none⟩), .agg #[.string s, .int .i64 q, .int .i64 p]] w fun e w' => e = .returned (.tuple #[]) ∧ Wr B b (l ++ lineT s q p) w w' := by
  unfold lineT
  by_cases hp1 : p = 1
  · subst hp1
    rw [if_pos rfl, List.append_nil, ← List.append_assoc]
    exact shopping_one B b l s q q0 q1 w hp h hB hBw hs hl
  · rw [if_neg hp1, ← List.append_assoc, ← List.append_assoc]
    exact shopping_more B b l s q q0 q1 p p0 p1 hp1 w hp h hB hBw hs hl
end Go.Proofs.YtdgcmihnbkamgaaDoor
