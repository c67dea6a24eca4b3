/- PoolAnswers: the walk of the statement. Conditions: the script as its memory says; fewer than 2^41 steps. -/
import Derived.Test.YtdgcmihnbkamgaaPoolM
namespace Go.Proofs.Ytdgcmihnbkamgaa
open Go.RowKit
set_option linter.unusedVariables false
set_option linter.unusedSimpArgs false
/-- What holds ahead of each round. -/
def InvA (w wr : World) (pb rb qb sb : Nat) (A1 A2 : List Md) (i : Nat) : Prop := Two wr (fun b => b < w.heap.size) pb rb A1 qb sb A2 ∧ Below w.heap.size w wr ∧ A1.length ≤ i ∧ A2.length ≤ i
/-- The two steps at the end. -/
def Ends (w : World) (b : Nat) : Prop := w.heap[b]? = some (.cells #[.int .i64 7, .bool false, .int .i64 0, .int .i64 0, .int .i64 0, .slice none 0 0, .int .i64 8, .bool false, .int .i64 0, .int .i64 0, .int .i64 0, .slice none 0 0] 28 (0, 0))
theorem Ends.bx {w : World} {b : Nat} (h : Ends w b) : (w.cell? ⟨b, 0, none⟩ = some (.int .i64 7) ∧ w.cell? ⟨b, 1, none⟩ = some (.bool false) ∧ w.cell? ⟨b, 2, none⟩ = some (.int .i64 0) ∧ w.cell? ⟨b, 3, none⟩ = some (.int .i64 0) ∧ w.cell? ⟨b, 4, none⟩ = some (.int .i64 0) ∧ w.cell? ⟨b, 5, none⟩ = some (.slice none 0 0)) ∧
    w.cell? ⟨b, 6, none⟩ = some (.int .i64 8) ∧ w.cell? ⟨b, 7, none⟩ = some (.bool false) ∧ w.cell? ⟨b, 8, none⟩ = some (.int .i64 0) ∧ w.cell? ⟨b, 9, none⟩ = some (.int .i64 0) ∧ w.cell? ⟨b, 10, none⟩ = some (.int .i64 0) ∧ w.cell? ⟨b, 11, none⟩ = some (.slice none 0 0) :=
  ⟨⟨by rw [Lib.cell_of_heap h]; rfl, by rw [Lib.cell_of_heap h]; rfl, by rw [Lib.cell_of_heap h]; rfl, by rw [Lib.cell_of_heap h]; rfl, by rw [Lib.cell_of_heap h]; rfl, by rw [Lib.cell_of_heap h]; rfl⟩, by rw [Lib.cell_of_heap h]; rfl, by rw [Lib.cell_of_heap h]; rfl, by rw [Lib.cell_of_heap h]; rfl, by rw [Lib.cell_of_heap h]; rfl, by rw [Lib.cell_of_heap h]; rfl, by rw [Lib.cell_of_heap h]; rfl⟩
set_option maxRecDepth 100000 in
set_option maxHeartbeats 4000000 in
theorem PoolAnswers_calls (w : World) (A : Option Addr) (n c : Nat) (ops : List OpR) (hlen : ops.length = n) (hn : n < 2199023255552) (hsc : ScAt w A ops) :
    Calls Try.prog 4 #[.slice A n c] w fun e w' => e = .returned (.bool true) ∧ Below w.heap.size w w' := by
  have HSC := Lib.hid hsc
  have HLEN := Lib.hid hlen
  clear hsc hlen
  go_enter Try.func4, Try.ntmps4
  go_wp2_with (first
    | (go_at_call 7; refine (fixed_calls _).mono ?_; rintro e w1 ⟨rfl, hb⟩; have HB1 := Lib.hid hb; clear hb)
    | (have HS2 := HP2.out; clear HS2; go_at_call 8; refine (new_calls _).mono ?_; rintro e w3 ⟨qb, rfl, hqb, hp, hb⟩; have HP3 := Lib.hid hp; have HB3 := Lib.hid hb; clear hp hb)
    | (go_at_call 8; refine (new_calls _).mono ?_; rintro e w2 ⟨pb, rfl, hpb, hp, hb⟩; have HP2 := Lib.hid (hp.mono (fun b h => Nat.le_trans HB1.out.size h)); have HB2 := Lib.hid (HB1.out.trans (hb.mono HB1.out.size)); clear hp hb))
  have HT := Lib.hid (Two.init (w := w) (w2 := w2) (w3 := w3) HB2.out.size HP2.out HP3.out HB3.out)
  have HB := Lib.hid (show Below w.heap.size w ((w3.alloc (.cells #[.slice none 0 0] 43)).alloc (.cells #[.slice none 0 0] 43)) from ((HB2.out.trans (HB3.out.mono HB2.out.size)).alloc (Nat.le_trans HB2.out.size HB3.out.size) _).alloc (by have := HB2.out.size; have := HB3.out.size; simp; omega) _)
  generalize w3.heap.size + 1 = sb at *
  generalize w3.heap.size = rb at *
  generalize (w3.alloc (.cells #[.slice none 0 0] 43)).alloc (.cells #[.slice none 0 0] 43) = w4 at *
  have HI : Hid (InvA w w4 pb rb qb sb [] [] 0) := Lib.hid ⟨HT.out, HB.out, Nat.le_refl _, Nat.le_refl _⟩
  clear HT HB HB3 HP3 HB2 HP2 HB1 hpb hqb
  go_loopg [7, 8] n (fun k v7 v8 wr => ∃ (i : Nat) (A1 A2 : List Md), i ≤ n ∧ v7 = .int .i64 i ∧ k = n - i ∧ Hid (InvA w wr pb rb qb sb A1 A2 i))
  case atStart => exact ⟨0, [], [], Nat.zero_le _, rfl, rfl, HI⟩
  case round =>
    obtain ⟨i, A1, A2, hi, rfl, hq, HIr⟩ := hrel
    have HQ := Lib.hid hq
    clear hq HI
    by_cases hil : i < n
    · obtain ⟨o, ho⟩ : ∃ o, ops[i]? = some o := ⟨ops[i]'(by have := HLEN.out; omega), List.getElem?_eq_getElem _⟩
      obtain ⟨⟨ok1, ok2, ok3, ok4, ok5, ok6⟩, a, rfl, x0, x1, x2, x3, x4, x5⟩ := HSC.out i o ho
      have y0 := cell_keeps HIr.out.2.1 _ _ x0
      have y1 := cell_keeps HIr.out.2.1 _ _ x1
      have y2 := cell_keeps HIr.out.2.1 _ _ x2
      have y3 := cell_keeps HIr.out.2.1 _ _ x3
      have y4 := cell_keeps HIr.out.2.1 _ _ x4
      have y5 := cell_keeps HIr.out.2.1 _ _ x5
      clear x0 x1 x2 x3 x4 x5
      have hlt : (i : Int) < (n : Int) := by omega
      have hdec : decide ((i : Int) < (n : Int)) = true := decide_eq_true hlt
      have hu28 := Try.underlying28
      obtain ⟨bA, bc, hv⟩ := ok5.shape
      obtain ⟨ok, os, on, ox, oy, ov, ob⟩ := o
      simp only at *
      subst hv
      have hby := ok5.keep HIr.out.2.1
      cases os with
      | false =>
        go_wp2_with fail
        refine (two_plays wr HIr.out.1 ok false on ox oy ok2 ok3 hby ok6 (by have := HIr.out.2.2; omega)).mono ?_
        rintro e w5 ⟨rfl, h5, t5⟩
        have hl := playStep_length A1 ok on ox oy ob
        have HI5 : Hid (InvA w w5 pb rb qb sb (playStep A1 ok on ox oy ob) A2 (i + 1)) := Lib.hid ⟨h5, t5.exBelow (fun b hb => hb) HIr.out.2.1, by have := HIr.out.2.2; omega, by have := HIr.out.2.2; omega⟩
        clear h5 t5 hby HIr y0 y1 y2 y3 y4 y5
        go_wp2
        go_roundg (n - (i + 1))
        case measure => have := HQ.out; omega
        case rel => exact ⟨i + 1, _, _, by omega, by go_num, rfl, HI5⟩
      | true =>
        go_wp2_with fail
        refine (two_plays wr HIr.out.1.swap ok true on ox oy ok2 ok3 hby ok6 (by have := HIr.out.2.2; omega)).mono ?_
        rintro e w5 ⟨rfl, h5, t5⟩
        have hl := playStep_length A2 ok on ox oy ob
        have HI5 : Hid (InvA w w5 pb rb qb sb A1 (playStep A2 ok on ox oy ob) (i + 1)) := Lib.hid ⟨h5.swap, t5.exBelow (fun b hb => hb) HIr.out.2.1, by have := HIr.out.2.2; omega, by have := HIr.out.2.2; omega⟩
        clear h5 t5 hby HIr y0 y1 y2 y3 y4 y5
        go_wp2
        go_roundg (n - (i + 1))
        case measure => have := HQ.out; omega
        case rel => exact ⟨i + 1, _, _, by omega, by go_num, rfl, HI5⟩
    · have hin : i = n := by omega
      subst hin
      go_wp2
      have HI2 := Lib.hid HIr.out.1
      have HB2 := Lib.hid HIr.out.2.1
      have h1 := HIr.out.2.2.1
      have h2 := HIr.out.2.2.2
      have hA1 : A1.length < 2199023255552 := by omega
      have hA2 : A2.length < 2199023255552 := by omega
      clear HIr HQ hi hil h1 h2
      go_loopg [9] (A1.length + 4) (fun k v9 wr => ∃ (j : Nat), j ≤ A1.length + 3 ∧ v9 = .int .i64 (j - 1) ∧ k = A1.length + 4 - j ∧ Hid (Two wr (fun b => b < w.heap.size) pb rb A1 qb sb A2) ∧ Hid (Below w.heap.size w wr))
      case atStart => exact ⟨0, Nat.zero_le _, rfl, rfl, HI2, HB2⟩
      case round =>
        obtain ⟨j, hj, rfl, hq, HIr, HBr⟩ := hrel
        have HQ := Lib.hid hq
        clear hq HI2 HB2
        obtain ⟨A0, c0, hcl⟩ := HIr.out.len
        by_cases hjl : j < A1.length + 3
        · have hle : (j : Int) - 1 ≤ (A1.length : Int) + 1 := by omega
          have hnn : int64 ((j : Int) - 1) := by unfold int64; omega
          go_wp2_with fail
          refine (two_plays wr HIr.out 2 false ((j : Int) - 1) 0 0 hnn (by unfold int64; omega) (v := .slice none 0 0) (b := []) (.inl ⟨rfl, rfl⟩) (by decide) hA1).mono ?_
          rintro e w5 ⟨rfl, h5, t5⟩
          have HI5 : Hid (Two w5 (fun b => b < w.heap.size) pb rb A1 qb sb A2) := Lib.hid h5
          have HB5 := Lib.hid (t5.exBelow (fun b hb => hb) HBr.out)
          clear h5 t5 HIr HBr hcl
          go_wp2
          go_roundg (A1.length + 4 - (j + 1))
          case measure => have := HQ.out; omega
          case rel => exact ⟨j + 1, by omega, by go_num, rfl, HI5, HB5⟩
        · have hgt : ¬ ((j : Int) - 1 ≤ (A1.length : Int) + 1) := by omega
          go_wp2_with fail
          have hE : Ends (wr.alloc (.cells #[.int .i64 7, .bool false, .int .i64 0, .int .i64 0, .int .i64 0, .slice none 0 0, .int .i64 8, .bool false, .int .i64 0, .int .i64 0, .int .i64 0, .slice none 0 0] 28)) wr.heap.size := heap_alloc_new wr _
          have hT := HIr.out.alloc (.cells #[.int .i64 7, .bool false, .int .i64 0, .int .i64 0, .int .i64 0, .slice none 0 0, .int .i64 8, .bool false, .int .i64 0, .int .i64 0, .int .i64 0, .slice none 0 0] 28)
          have hB := HBr.out.alloc HBr.out.size (.cells #[.int .i64 7, .bool false, .int .i64 0, .int .i64 0, .int .i64 0, .slice none 0 0, .int .i64 8, .bool false, .int .i64 0, .int .i64 0, .int .i64 0, .slice none 0 0] 28)
          have hz : int64 0 := by unfold int64; omega
          clear hcl HIr HBr HQ
          generalize wr.alloc (.cells #[.int .i64 7, .bool false, .int .i64 0, .int .i64 0, .int .i64 0, .slice none 0 0, .int .i64 8, .bool false, .int .i64 0, .int .i64 0, .int .i64 0, .slice none 0 0] 28) = W1 at *
          refine (two_plays W1 hT 7 false 0 0 0 hz hz (v := .slice none 0 0) (b := []) (.inl ⟨rfl, rfl⟩) (by decide) hA1).mono ?_
          rintro e W2 ⟨rfl, hT, t⟩
          have hT : Two W2 (fun b => b < w.heap.size ∨ b = wr.heap.size) pb rb A1 qb sb A2 := hT
          have hE : Ends W2 wr.heap.size := (t.block _ (heap_lt hE) (fun h => h (.inr rfl))).trans hE
          have hB := t.exBelow (fun b hb => .inl hb) hB
          clear t
          obtain ⟨⟨x0, x1, x2, x3, x4, x5⟩, x6, x7, x8, x9, x10, x11⟩ := hE.bx
          go_wp2_with fail
          clear x0 x1 x2 x3 x4 x5 x6 x7 x8 x9 x10 x11
          refine (two_plays W2 hT 8 false 0 0 0 hz hz (v := .slice none 0 0) (b := []) (.inl ⟨rfl, rfl⟩) (by decide) hA1).mono ?_
          rintro e W3 ⟨rfl, hT, t⟩
          have hT : Two W3 (fun b => b < w.heap.size ∨ b = wr.heap.size) pb rb A1 qb sb A2 := hT
          have hE : Ends W3 wr.heap.size := (t.block _ (heap_lt hE) (fun h => h (.inr rfl))).trans hE
          have hB := t.exBelow (fun b hb => .inl hb) hB
          clear t
          obtain ⟨⟨x0, x1, x2, x3, x4, x5⟩, x6, x7, x8, x9, x10, x11⟩ := hE.bx
          go_wp2_with fail
          clear x0 x1 x2 x3 x4 x5 x6 x7 x8 x9 x10 x11
          refine (two_plays W3 hT.swap 7 false 0 0 0 hz hz (v := .slice none 0 0) (b := []) (.inl ⟨rfl, rfl⟩) (by decide) hA2).mono ?_
          rintro e W4 ⟨rfl, hT, t⟩
          have hT : Two W4 (fun b => b < w.heap.size ∨ b = wr.heap.size) qb sb A2 pb rb A1 := hT
          have hE : Ends W4 wr.heap.size := (t.block _ (heap_lt hE) (fun h => h (.inr rfl))).trans hE
          have hB := t.exBelow (fun b hb => .inl hb) hB
          clear t
          obtain ⟨⟨x0, x1, x2, x3, x4, x5⟩, x6, x7, x8, x9, x10, x11⟩ := hE.bx
          go_wp2_with fail
          clear x0 x1 x2 x3 x4 x5 x6 x7 x8 x9 x10 x11
          refine (two_plays W4 hT 8 false 0 0 0 hz hz (v := .slice none 0 0) (b := []) (.inl ⟨rfl, rfl⟩) (by decide) hA2).mono ?_
          rintro e W5 ⟨rfl, hT, t⟩
          have HB := Lib.hid (t.exBelow (fun b hb => .inl hb) hB)
          clear t hT hE hB
          go_wp2
          go_ret
          exact ⟨by simp, HB.out⟩
end Go.Proofs.Ytdgcmihnbkamgaa
