/- The document's Waiting, sameInts, same: walks. Conditions: the pool as its memory text says; both lists are one. -/
import Derived.Test.YtdgcmihnbkamgaaPoolI
import Derived.Test.YtdgcmihnbkamgaaPoolG
namespace Go.Proofs.Ytdgcmihnbkamgaa
open Go.RowKit
set_option linter.unusedVariables false
set_option linter.unusedSimpArgs false
theorem rtrim_calls (w : World) {ok : Nat → Prop} {rb : Nat} {All : List Md} (k : Int) (hk : int64 k) (cut : Int) (hc : int64 cut) (h : RefAt w ok rb All) (hn : All.length ≤ 17592186044416) {x : Option Md} (hx : under All k = x) (hl : (x.getD md0).b.length ≤ 140737488355328) :
    Calls Try.prog 28 #[.pointer (some ⟨rb, 0, none⟩), .int .i64 k, .int .i64 cut] w fun e w' => e = .returned (.int .i64 (trimErr x cut)) ∧ RefAt w' ok rb (trimAt All k cut) ∧ Turn ok w w' := by
  unfold trimAt trimErr
  rw [hx]
  cases x with
  | none => exact (rtrim_none w k hk cut h hn hx).mono fun e w' ⟨he, hb⟩ => ⟨he, h.below hb, Turn.of_below hb⟩
  | some m =>
    by_cases hcut : cut < 1
    · simp only [if_pos hcut]
      exact (rtrim_arg w k hk cut hcut h hn hx).mono fun e w' ⟨he, hb⟩ => ⟨he, h.below hb, Turn.of_below hb⟩
    · simp only [if_neg hcut]
      exact rtrim_cut w k hk cut (by omega) hc.2 h hn hx hl
theorem info3 : (Try.prog.info? 3).map (fun i => (i.zero, i.size, i.bytes)) = some (some (.int .i64 0), 1, 8) := by kernel_rfl
/-- The numbers under way among the first i. -/
def waitsTo (All : List Md) (i : Nat) : List Int := ((List.range i).map fun j : Nat => (j : Int) + 1).filter fun k => (under All k).isSome
theorem waitsTo_le (All : List Md) (i : Nat) : (waitsTo All i).length ≤ i := by
  unfold waitsTo
  refine Nat.le_trans (List.length_filter_le _ _) ?_
  simp
theorem waitsTo_succ (All : List Md) (i : Nat) : waitsTo All (i + 1) = waitsTo All i ++ (if (under All ((i : Int) + 1)).isSome then [(i : Int) + 1] else []) := by
  unfold waitsTo
  rw [List.range_succ, List.map_append, List.filter_append]
  congr 1
  simp only [List.map_cons, List.map_nil, List.filter_cons, List.filter_nil]
theorem under_at {All : List Md} {i : Nat} {m : Md} (h : All[i]? = some m) : (under All ((i : Int) + 1)).isSome = !m.s := by
  unfold under
  rw [if_pos (by omega), show ((i : Int) + 1).toNat - 1 = i by omega, h]
  cases hs : m.s <;> simp [hs]
theorem RowO.below {w w' : World} {ok : Nat → Prop} {e sz n : Nat} {v : Value} {cs : List Value} (h : RowO w ok e sz v n cs) (hb : Below w.heap.size w w') : RowO w' ok e sz v n cs := h.loc fun b _ hlt => hb.block b hlt
set_option maxRecDepth 100000 in
set_option maxHeartbeats 1000000 in
/-- 'p.Waiting()' of the document's pool. -/
theorem rwaiting_calls (w : World) {ok : Nat → Prop} {rb : Nat} {All : List Md} (h : RefAt w ok rb All) (hn : All.length < 17592186044416 / 8) :
    Calls Try.prog 30 #[.pointer (some ⟨rb, 0, none⟩)] w fun e w' => ∃ v, e = .returned v ∧ RowO w' (fun b => w.heap.size ≤ b) 3 1 v (waits All).length ((waits All).map (Value.int .i64)) ∧ Below w.heap.size w w' := by
  have H := Lib.hid h
  obtain ⟨v0, h1, h2, h3⟩ := h
  obtain ⟨A, c, rfl, hA, hpos⟩ := h3.shape
  have H1 := Lib.hid h1
  have H3 := Lib.hid h3
  have hlt0 := heap_lt h1
  clear h1 h3
  go_enter Try.func30, Try.ntmps30
  go_wp2
  go_loopg [3, 4] All.length (fun k v3 v4 wr => ∃ i : Nat, i ≤ All.length ∧ v4 = .int .i64 i ∧ k = All.length - i ∧ Hid (RowO wr (fun b => w.heap.size ≤ b) 3 1 v3 (waitsTo All i).length ((waitsTo All i).map (Value.int .i64))) ∧ Hid (Below w.heap.size w wr))
  case atStart => exact ⟨0, Nat.zero_le _, rfl, rfl, Lib.hid ⟨World.ownsRow_nil _ _ _ _, fun k hk => by cases hk⟩, Lib.hid (Below.refl _ _)⟩
  case round =>
    obtain ⟨i, hi, rfl, hq, HV, HB⟩ := hrel
    have HQ := Lib.hid hq
    clear hq
    obtain ⟨c0, f0⟩ := one_bx ((HB.out.block _ hlt0).trans H1.out)
    by_cases hil : i < All.length
    · obtain ⟨m, hm⟩ : ∃ m, All[i]? = some m := ⟨_, List.getElem?_eq_getElem hil⟩
      obtain ⟨g, rfl⟩ := hpos (by omega)
      obtain ⟨_, hle, ⟨a0, a1, a2, a3⟩, hf⟩ := row_md (H3.out.below HB.out) hm
      have hlt : (i : Int) < (All.length : Int) := by omega
      have hdec : decide ((i : Int) < (All.length : Int)) = true := decide_eq_true hlt
      have hs := waitsTo_succ All i
      rw [under_at hm] at hs
      cases hms : m.s with
      | true =>
        rw [hms] at a3 hs
        have HS := Lib.hid (show waitsTo All (i + 1) = waitsTo All i by simpa using hs)
        clear hs hms
        go_wp2
        go_roundg (All.length - (i + 1))
        case measure => have := HQ.out; omega
        case rel => exact ⟨i + 1, by omega, by go_num, rfl, by rw [HS.out]; exact HV, HB⟩
      | false =>
        rw [hms] at a3 hs
        obtain ⟨v', w', hr, ho, ht⟩ := row_push wr 49 49 3 HV.out #[.int .i64 ((i : Int) + 1)] Try.underlying49 info3 (by rfl) (by decide) (by rfl) (by intro u hu; simp at hu; subst hu; rfl) (by have := waitsTo_le All i; omega) (by have := waitsTo_le All i; omega)
        have HR := Lib.hid hr
        have hB' := HB.out.trans (ht.below (B := w.heap.size) (fun b hb h => by omega) HB.out.size)
        have HO := Lib.hid (show RowO w' (fun b => w.heap.size ≤ b) 3 1 v' (waitsTo All (i + 1)).length ((waitsTo All (i + 1)).map (Value.int .i64)) by
          rw [hs]
          simp only [Bool.not_false, if_true, List.length_append, List.map_append]
          exact ho.mono fun b hb => hb.elim id fun h => Nat.le_trans HB.out.size h)
        have HB' := Lib.hid hB'
        clear hs hms hr ho ht hB'
        go_wp2_with (at_builtin; (refine wpList_append_run rfl _ _ _ rfl rfl rfl HR.out ?_))
        go_roundg (All.length - (i + 1))
        case measure => have := HQ.out; omega
        case rel => exact ⟨i + 1, by omega, by go_num, rfl, HO, HB'⟩
    · obtain rfl : i = All.length := by omega
      have hdec : decide ((All.length : Int) < (All.length : Int)) = false := decide_eq_false (by omega)
      go_wp2
      go_ret
      exact ⟨_, rfl, HV.out, HB.out⟩
set_option maxRecDepth 100000 in
set_option maxHeartbeats 1000000 in
/-- 'sameInts(a, b)' of two lists that hold the same. -/
theorem sameInts_calls (w : World) {ok1 ok2 : Nat → Prop} {v1 v2 : Value} (xs : List Int) (h1 : RowO w ok1 3 1 v1 xs.length (xs.map (Value.int .i64))) (h2 : RowO w ok2 3 1 v2 xs.length (xs.map (Value.int .i64))) (hn : xs.length < 17592186044416) :
    Calls Try.prog 29 #[v1, v2] w fun e w' => e = .returned (.bool true) ∧ Below w.heap.size w w' := by
  obtain ⟨A1, c1, rfl, _, hp1⟩ := h1.shape
  obtain ⟨A2, c2, rfl, _, hp2⟩ := h2.shape
  have H1 := Lib.hid h1
  have H2 := Lib.hid h2
  clear h1 h2
  go_enter Try.func29, Try.ntmps29
  go_wp2
  go_loopg [5] xs.length (fun k v5 wr => ∃ i : Nat, i ≤ xs.length ∧ v5 = .int .i64 i ∧ k = xs.length - i ∧ Hid (Below w.heap.size w wr))
  case atStart => exact ⟨0, Nat.zero_le _, rfl, rfl, Lib.hid (Below.refl _ _)⟩
  case round =>
    obtain ⟨i, hi, rfl, hq, HB⟩ := hrel
    have HQ := Lib.hid hq
    clear hq
    by_cases hil : i < xs.length
    · obtain ⟨x, hx⟩ : ∃ x, xs[i]? = some x := ⟨_, List.getElem?_eq_getElem hil⟩
      obtain ⟨g1, rfl⟩ := hp1 (by omega)
      obtain ⟨g2, rfl⟩ := hp2 (by omega)
      have a1 : wr.cell? ⟨g1, i, none⟩ = some (.int .i64 x) := by rw [(H1.out.below HB.out).1.cellAt i (by omega), List.getElem?_map, hx]; rfl
      have a2 : wr.cell? ⟨g2, i, none⟩ = some (.int .i64 x) := by rw [(H2.out.below HB.out).1.cellAt i (by omega), List.getElem?_map, hx]; rfl
      have hlt : (i : Int) < (xs.length : Int) := by omega
      have hdec : decide ((i : Int) < (xs.length : Int)) = true := decide_eq_true hlt
      have hc1 : xs.length ≤ c1 := by rcases H1.out.1.2 with ⟨e, _⟩ | ⟨g, c, cur, e, _, _, h, _⟩; cases e; injection e with e1 e2 e3; omega
      have hc2 : xs.length ≤ c2 := by rcases H2.out.1.2 with ⟨e, _⟩ | ⟨g, c, cur, e, _, _, h, _⟩; cases e; injection e with e1 e2 e3; omega
      go_wp2
      go_region_held3 (fun w' => w'.cell? ⟨g1, i, none⟩ = some (.int .i64 x) ∧ w'.cell? ⟨g2, i, none⟩ = some (.int .i64 x)) (exact ⟨a1, a2⟩) (fail)
      go_wp2
      go_roundg (xs.length - (i + 1))
      case measure => have := HQ.out; omega
      case rel => exact ⟨i + 1, by omega, by go_num, rfl, Lib.hid (Below.drew HB.out)⟩
    · obtain rfl : i = xs.length := by omega
      have hdec : decide ((xs.length : Int) < (xs.length : Int)) = false := decide_eq_false (by omega)
      go_wp2
      go_ret
      exact ⟨rfl, HB.out⟩
set_option maxRecDepth 100000 in
set_option maxHeartbeats 1000000 in
/-- 'same(l, m)' of a letter and the document's message that say the same. -/
theorem same_calls (w : World) {ok : Nat → Prop} (f t : Int) (b : List UInt8) {v : Value} (h : Bys w ok v b) (z : Bool) :
    Calls Try.prog 21 #[.agg #[.int .i64 f, .int .i64 t, v], .agg #[.int .i64 f, .int .i64 t, .string ⟨b.toArray⟩, .bool z]] w fun e w' => e = .returned (.bool true) ∧ Below w.heap.size w w' := by
  obtain ⟨A, c, rfl⟩ := h.shape
  have hal := ((Below.refl w.heap.size w).alloc (Nat.le_refl _) (.cells #[.int .i64 f, .int .i64 t, .slice A b.length c] 31)).alloc (by simp) (.cells #[.int .i64 f, .int .i64 t, .string ⟨b.toArray⟩, .bool z] 55)
  have s := (h.below hal).str
  have HA := Lib.hid hal
  clear h hal
  go_enter Try.func21, Try.ntmps21
  go_wp2
  go_ret
  exact ⟨by simp, HA.out⟩
end Go.Proofs.Ytdgcmihnbkamgaa
