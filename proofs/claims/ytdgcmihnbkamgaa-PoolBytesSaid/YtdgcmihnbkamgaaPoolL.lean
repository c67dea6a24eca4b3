/- plays: a step that is no Put answers alike: the walks. Conditions: both pools hold the same messages; the step as the script's memory says. -/
import Derived.Test.YtdgcmihnbkamgaaPoolK
namespace Go.Proofs.Ytdgcmihnbkamgaa
open Go.RowKit
set_option linter.unusedVariables false
set_option linter.unusedSimpArgs false
theorem Played.mono {w w' : World} {ok ok' : Nat → Prop} {pb rb : Nat} {All : List Md} (h : Played w w' ok pb rb All) (hm : ∀ b, ok b → ok' b) : Played w w' ok' pb rb All :=
  ⟨h.1.mono fun b hb => hb.imp (hm b) id, h.2.mono hm⟩
set_option maxRecDepth 100000 in
set_option maxHeartbeats 2000000 in
theorem plays_look (w : World) {ok : Nat → Prop} {pb rb : Nat} {All : List Md} (h : Pair w ok pb rb All) (s : Bool) (n x y : Int) (hnn : int64 n) (hxx : int64 x) {okb : Nat → Prop} {v : Value} {b : List UInt8} (hv : Bys w okb v b) (hn : All.length < 2199023255552) (hbn : Bnd All) :
    Calls Try.prog 15 #[.pointer (some ⟨pb, 0, none⟩), .pointer (some ⟨rb, 0, none⟩), .agg #[.int .i64 2, .bool s, .int .i64 n, .int .i64 x, .int .i64 y, v]] w fun e w' => e = .returned (.bool true) ∧ Played w w' ok pb rb All := by
  obtain ⟨A, c, rfl⟩ := hv.shape
  obtain ⟨okp, okr, hP, hR, hdis, hpo, hro⟩ := h
  have hP0 := hP
  have hR0 := hR
  obtain ⟨u, hu⟩ : ∃ u, under All n = u := ⟨_, rfl⟩
  have hul : (u.getD md0).b.length ≤ 140737488355328 := by
    cases u with
    | none => decide
    | some m => exact hbn m (under_mem hu)
  have hal := (Below.refl w.heap.size w).alloc (Nat.le_refl _) (.cells #[.int .i64 2, .bool s, .int .i64 n, .int .i64 x, .int .i64 y, .slice A b.length c] 28)
  have hB := Box6.new w 2 s n x y (.slice A b.length c)
  have hP := hP.bd.below hal
  have hR := hR.bd.below hal
  go_enter Try.func15, Try.ntmps15
  go_wp2_with fail
  generalize w.alloc (.cells #[.int .i64 2, .bool s, .int .i64 n, .int .i64 x, .int .i64 y, .slice A b.length c] 28) = W1 at *
  refine (look_calls W1 n hnn hP hu hul).mono ?_
  rintro e w2 ⟨A2, c2, rfl, ho2, hb2⟩
  have hO := ho2.bys
  have hP := hP.below hb2
  have hR := hR.below hb2
  have hB := hB.below hb2
  have hs2 := hb2.size
  have hal := hal.trans (hb2.mono hal.size)
  clear ho2 hb2
  obtain ⟨⟨q0, q1, q2, q3, q4, q5⟩, q6⟩ := (hB.below ((Below.refl w2.heap.size w2).alloc (Nat.le_refl _) (.cells #[.int .i64 (u.getD md0).f, .int .i64 (u.getD md0).t, .slice A2 (u.getD md0).b.length c2] 31))).bx
  go_wp2_with fail
  clear q0 q1 q2 q3 q4 q5 q6
  have hal2 := (Below.refl w2.heap.size w2).alloc (Nat.le_refl _) (.cells #[.int .i64 (u.getD md0).f, .int .i64 (u.getD md0).t, .slice A2 (u.getD md0).b.length c2] 31)
  have hC := Box3.new w2 (.int .i64 (u.getD md0).f) (.int .i64 (u.getD md0).t) (.slice A2 (u.getD md0).b.length c2)
  have hs3 : (w2.alloc (.cells #[.int .i64 (u.getD md0).f, .int .i64 (u.getD md0).t, .slice A2 (u.getD md0).b.length c2] 31)).heap.size = w2.heap.size + 1 := by simp
  have hO := hO.below hal2
  have hP := hP.below hal2
  have hR := hR.below hal2
  have hs4 := hal2.size
  generalize w2.alloc (.cells #[.int .i64 (u.getD md0).f, .int .i64 (u.getD md0).t, .slice A2 (u.getD md0).b.length c2] 31) = W3 at *
  refine (rlook_calls W3 n hnn hR (by omega) hu).mono ?_
  rintro e w4 ⟨rfl, hb4⟩
  have hO := hO.below hb4
  have hP := hP.below hb4
  have hR := hR.below hb4
  have hC := hC.below hb4
  have hal := hal.trans ((hal2.trans (hb4.mono hal2.size)).mono hal.size)
  unfold mdV
  have hal4 := (Below.refl w4.heap.size w4).alloc (Nat.le_refl _) (.cells #[.int .i64 (u.getD md0).f, .int .i64 (u.getD md0).t, .string ⟨(u.getD md0).b.toArray⟩, .bool false] 55)
  have hD := Box4.new w4 (u.getD md0).f (u.getD md0).t ⟨(u.getD md0).b.toArray⟩ false
  have hC := hC.below hal4
  have hO := hO.below hal4
  obtain ⟨⟨r0, r1, r2⟩, _, _, _⟩ := hC.bx
  obtain ⟨⟨t0, t1, t2, t3⟩, _, _, _, _⟩ := hD.bx
  go_wp2_with fail
  refine (same_calls _ (u.getD md0).f (u.getD md0).t (u.getD md0).b hO false).mono ?_
  rintro e w5 ⟨rfl, hb5⟩
  have HF := Lib.hid ((hal.trans (hal4.mono hal.size)).trans (hb5.mono (Nat.le_trans hal.size hal4.size)))
  clear r0 r1 r2 t0 t1 t2 t3 hO hC hD hB hal hal2 hal4 hb5 hP hR
  go_wp2
  go_ret
  exact ⟨by simp, Played.still ⟨okp, okr, hP0, hR0, hdis, hpo, hro⟩ HF.out⟩
set_option maxRecDepth 100000 in
set_option maxHeartbeats 2000000 in
theorem plays_take (w : World) {ok : Nat → Prop} {pb rb : Nat} {All : List Md} (h : Pair w ok pb rb All) (s : Bool) (n x y : Int) (hnn : int64 n) (hxx : int64 x) {okb : Nat → Prop} {v : Value} {b : List UInt8} (hv : Bys w okb v b) (hn : All.length < 2199023255552) (hbn : Bnd All) :
    Calls Try.prog 15 #[.pointer (some ⟨pb, 0, none⟩), .pointer (some ⟨rb, 0, none⟩), .agg #[.int .i64 3, .bool s, .int .i64 n, .int .i64 x, .int .i64 y, v]] w fun e w' => e = .returned (.bool true) ∧ Played w w' ok pb rb (spentAt All n) := by
  obtain ⟨A, c, rfl⟩ := hv.shape
  obtain ⟨okp, okr, hP, hR, hdis, hpo, hro⟩ := h
  obtain ⟨u, hu⟩ : ∃ u, under All n = u := ⟨_, rfl⟩
  have hul : (u.getD md0).b.length ≤ 140737488355328 := by
    cases u with
    | none => decide
    | some m => exact hbn m (under_mem hu)
  have hal := (Below.refl w.heap.size w).alloc (Nat.le_refl _) (.cells #[.int .i64 3, .bool s, .int .i64 n, .int .i64 x, .int .i64 y, .slice A b.length c] 28)
  have hB := Box6.new w 3 s n x y (.slice A b.length c)
  have hP := hP.bd.below hal
  have hR := hR.bd.below hal
  go_enter Try.func15, Try.ntmps15
  go_wp2_with fail
  generalize w.alloc (.cells #[.int .i64 3, .bool s, .int .i64 n, .int .i64 x, .int .i64 y, .slice A b.length c] 28) = W1 at *
  refine (take_calls W1 n hnn hP hu hul).mono ?_
  rintro e w2 ⟨A2, c2, rfl, ho2, hp2, ht2⟩
  have hs1 := hal.size
  have hO := ho2.bys
  have hP := hp2
  have hR := hR.loc (fun b hb hlt => ht2.block b hlt (fun h => hdis b h.1 hb.1))
  have hB := hB.turn ht2 (fun h => Nat.lt_irrefl _ h.2)
  have hs2 := ht2.size
  have HT2 := Lib.hid ht2
  have HH1 := Lib.hid hal
  clear ho2 hp2 ht2
  obtain ⟨⟨q0, q1, q2, q3, q4, q5⟩, q6⟩ := (hB.below ((Below.refl w2.heap.size w2).alloc (Nat.le_refl _) (.cells #[.int .i64 (u.getD md0).f, .int .i64 (u.getD md0).t, .slice A2 (u.getD md0).b.length c2] 31))).bx
  go_wp2_with fail
  clear q0 q1 q2 q3 q4 q5 q6
  have hal2 := (Below.refl w2.heap.size w2).alloc (Nat.le_refl _) (.cells #[.int .i64 (u.getD md0).f, .int .i64 (u.getD md0).t, .slice A2 (u.getD md0).b.length c2] 31)
  have hC := Box3.new w2 (.int .i64 (u.getD md0).f) (.int .i64 (u.getD md0).t) (.slice A2 (u.getD md0).b.length c2)
  have hs3 : (w2.alloc (.cells #[.int .i64 (u.getD md0).f, .int .i64 (u.getD md0).t, .slice A2 (u.getD md0).b.length c2] 31)).heap.size = w2.heap.size + 1 := by simp
  have hO := hO.below hal2
  have hP := hP.below hal2
  have hR := hR.below hal2
  have hs4 := hal2.size
  generalize w2.alloc (.cells #[.int .i64 (u.getD md0).f, .int .i64 (u.getD md0).t, .slice A2 (u.getD md0).b.length c2] 31) = W3 at *
  refine (rspend_calls W3 n hnn hR (by omega) hu).mono ?_
  rintro e w4 ⟨rfl, hr4, ht4⟩
  have hO := hO.turn ht4 (fun b hb h => by have h1 := h.2; have h2 := hb.1; omega)
  have hC := hC.turn ht4 (fun h => by have h1 := h.2; omega)
  have HT4 := Lib.hid ht4
  have HR4 := Lib.hid hr4
  have HP := Lib.hid hP
  have HA2 := Lib.hid hal2
  have hs5 := ht4.size
  clear hr4 ht4
  unfold mdV
  have hal4 := (Below.refl w4.heap.size w4).alloc (Nat.le_refl _) (.cells #[.int .i64 (u.getD md0).f, .int .i64 (u.getD md0).t, .string ⟨(u.getD md0).b.toArray⟩, .bool false] 55)
  have hD := Box4.new w4 (u.getD md0).f (u.getD md0).t ⟨(u.getD md0).b.toArray⟩ false
  have hC := hC.below hal4
  have hO := hO.below hal4
  obtain ⟨⟨r0, r1, r2⟩, _, _, _⟩ := hC.bx
  obtain ⟨⟨t0, t1, t2, t3⟩, _, _, _, _⟩ := hD.bx
  go_wp2_with fail
  refine (same_calls _ (u.getD md0).f (u.getD md0).t (u.getD md0).b hO false).mono ?_
  rintro e w5 ⟨rfl, hb5⟩
  have HF := Lib.hid (hal4.trans (hb5.mono hal4.size))
  clear r0 r1 r2 t0 t1 t2 t3 hO hC hD hB hal hal2 hal4 hb5 hP hR
  go_wp2
  go_ret
  have hT : Turn ok w w5 := ((((Turn.of_below HH1.out).trans (HT2.out.mono fun b hb => .inl (hpo b hb.1))).trans (Turn.of_below HA2.out)).trans (HT4.out.mono fun b hb => .inl (hro b hb.1))).trans (Turn.of_below HF.out)
  refine ⟨by simp, ⟨_, _, (HP.out.loc fun b hb hlt => HT4.out.block b hlt (fun h => hdis b hb.1 h.1)).below HF.out, HR4.out.below HF.out, fun b h h' => hdis b h.1 h'.1, fun b h => .inl (hpo b h.1), fun b h => .inl (hro b h.1)⟩, hT⟩
set_option maxRecDepth 100000 in
set_option maxHeartbeats 2000000 in
theorem plays_drop (w : World) {ok : Nat → Prop} {pb rb : Nat} {All : List Md} (h : Pair w ok pb rb All) (s : Bool) (n x y : Int) (hnn : int64 n) (hxx : int64 x) {okb : Nat → Prop} {v : Value} {b : List UInt8} (hv : Bys w okb v b) (hn : All.length < 2199023255552) (hbn : Bnd All) :
    Calls Try.prog 15 #[.pointer (some ⟨pb, 0, none⟩), .pointer (some ⟨rb, 0, none⟩), .agg #[.int .i64 4, .bool s, .int .i64 n, .int .i64 x, .int .i64 y, v]] w fun e w' => e = .returned (.bool true) ∧ Played w w' ok pb rb (spentAt All n) := by
  obtain ⟨A, c, rfl⟩ := hv.shape
  obtain ⟨okp, okr, hP, hR, hdis, hpo, hro⟩ := h
  obtain ⟨u, hu⟩ : ∃ u, under All n = u := ⟨_, rfl⟩
  have hul : (u.getD md0).b.length ≤ 140737488355328 := by
    cases u with
    | none => decide
    | some m => exact hbn m (under_mem hu)
  have hal := (Below.refl w.heap.size w).alloc (Nat.le_refl _) (.cells #[.int .i64 4, .bool s, .int .i64 n, .int .i64 x, .int .i64 y, .slice A b.length c] 28)
  have hB := Box6.new w 4 s n x y (.slice A b.length c)
  have hP := hP.bd.below hal
  have hR := hR.bd.below hal
  go_enter Try.func15, Try.ntmps15
  go_wp2_with fail
  generalize w.alloc (.cells #[.int .i64 4, .bool s, .int .i64 n, .int .i64 x, .int .i64 y, .slice A b.length c] 28) = W1 at *
  refine (rspend_calls W1 n hnn hR (by omega) hu).mono ?_
  rintro e w2 ⟨rfl, hr2, ht2⟩
  have hP := hP.loc (fun b hb hlt => ht2.block b hlt (fun h => hdis b hb.1 h.1))
  have hB := hB.turn ht2 (fun h => Nat.lt_irrefl _ h.2)
  unfold mdV
  have hal2 := (Below.refl w2.heap.size w2).alloc (Nat.le_refl _) (.cells #[.int .i64 (u.getD md0).f, .int .i64 (u.getD md0).t, .string ⟨(u.getD md0).b.toArray⟩, .bool false] 55)
  have hP := hP.below hal2
  have hB := hB.below hal2
  obtain ⟨⟨q0, q1, q2, q3, q4, q5⟩, q6⟩ := hB.bx
  have HR2 := Lib.hid hr2
  have HT2 := Lib.hid ht2
  have HAL := Lib.hid hal
  have HA2 := Lib.hid hal2
  clear hr2 ht2 hal hal2 hB
  go_wp2_with fail
  refine (drop_calls _ n hnn hP hu hul).mono ?_
  rintro e w3 ⟨rfl, hp3, ht3⟩
  have HP3 := Lib.hid hp3
  have HT3 := Lib.hid ht3
  clear hp3 ht3 hP hR q0 q1 q2 q3 q4 q5 q6
  go_wp2
  go_ret
  exact ⟨by simp, (Played.back (P := fun _ => True) (okp := fun b => okp b ∧ b < w.heap.size) (okr := fun b => okr b ∧ b < w.heap.size) HAL.out (fun b h h' => hdis b h.1 h'.1) (fun b h => hpo b h.1) (fun b h => hro b h.1) HR2.out HT2.out HA2.out HP3.out HT3.out)⟩
set_option maxRecDepth 100000 in
set_option maxHeartbeats 2000000 in
theorem plays_copy_none (w : World) {ok : Nat → Prop} {pb rb : Nat} {All : List Md} (h : Pair w ok pb rb All) (s : Bool) (n x y : Int) (hnn : int64 n) (hxx : int64 x) {okb : Nat → Prop} {v : Value} {b : List UInt8} (hv : Bys w okb v b) (hn : All.length < 2199023255552) (hbn : Bnd All) (hu : under All n = none) :
    Calls Try.prog 15 #[.pointer (some ⟨pb, 0, none⟩), .pointer (some ⟨rb, 0, none⟩), .agg #[.int .i64 5, .bool s, .int .i64 n, .int .i64 x, .int .i64 y, v]] w fun e w' => e = .returned (.bool true) ∧ Played w w' ok pb rb All := by
  obtain ⟨A, c, rfl⟩ := hv.shape
  obtain ⟨okp, okr, hP, hR, hdis, hpo, hro⟩ := h
  have hP0 := hP
  have hR0 := hR
  have hal := (Below.refl w.heap.size w).alloc (Nat.le_refl _) (.cells #[.int .i64 5, .bool s, .int .i64 n, .int .i64 x, .int .i64 y, .slice A b.length c] 28)
  have hB := Box6.new w 5 s n x y (.slice A b.length c)
  have hP := hP.bd.below hal
  have hR := hR.bd.below hal
  go_enter Try.func15, Try.ntmps15
  go_wp2_with fail
  generalize w.alloc (.cells #[.int .i64 5, .bool s, .int .i64 n, .int .i64 x, .int .i64 y, .slice A b.length c] 28) = W1 at *
  refine (copy_none W1 n hnn hP hu).mono ?_
  rintro e w2 ⟨rfl, hb2⟩
  have hR := hR.below hb2
  have hB := hB.below hb2
  have hal := hal.trans (hb2.mono hal.size)
  obtain ⟨⟨q0, q1, q2, q3, q4, q5⟩, q6⟩ := hB.bx
  have HAL := Lib.hid hal
  clear hb2 hal hB hP
  go_wp2_with fail
  refine (rcopy_none w2 n hnn hR (by omega) hu).mono ?_
  rintro e w3 ⟨rfl, hb3⟩
  have HF := Lib.hid (HAL.out.trans (hb3.mono HAL.out.size))
  clear hb3 hR q0 q1 q2 q3 q4 q5 q6
  go_wp2
  go_ret
  exact ⟨by simp, Played.still ⟨okp, okr, hP0, hR0, hdis, hpo, hro⟩ HF.out⟩
set_option maxRecDepth 100000 in
set_option maxHeartbeats 2000000 in
theorem plays_copy_some (w : World) {ok : Nat → Prop} {pb rb : Nat} {All : List Md} (h : Pair w ok pb rb All) (s : Bool) (n x y : Int) (hnn : int64 n) (hxx : int64 x) {okb : Nat → Prop} {v : Value} {b : List UInt8} (hv : Bys w okb v b) (hn : All.length < 2199023255552) (hbn : Bnd All) {m : Md} (hu : under All n = some m) :
    Calls Try.prog 15 #[.pointer (some ⟨pb, 0, none⟩), .pointer (some ⟨rb, 0, none⟩), .agg #[.int .i64 5, .bool s, .int .i64 n, .int .i64 x, .int .i64 y, v]] w fun e w' => e = .returned (.bool true) ∧ Played w w' ok pb rb (All ++ [⟨m.f, m.t, m.b, false⟩]) := by
  obtain ⟨A, c, rfl⟩ := hv.shape
  obtain ⟨okp, okr, hP, hR, hdis, hpo, hro⟩ := h
  have hml := hbn m (under_mem hu)
  have hal := (Below.refl w.heap.size w).alloc (Nat.le_refl _) (.cells #[.int .i64 5, .bool s, .int .i64 n, .int .i64 x, .int .i64 y, .slice A b.length c] 28)
  have hB := Box6.new w 5 s n x y (.slice A b.length c)
  have hP := hP.bd.below hal
  have hR := hR.bd.below hal
  go_enter Try.func15, Try.ntmps15
  go_wp2_with fail
  generalize w.alloc (.cells #[.int .i64 5, .bool s, .int .i64 n, .int .i64 x, .int .i64 y, .slice A b.length c] 28) = W1 at *
  refine (copy_some W1 n hnn hP hu hml (by omega)).mono ?_
  rintro e w2 ⟨rfl, hp2, ht2⟩
  have hR := hR.loc (fun b hb hlt => ht2.block b hlt (fun h => hdis b h.1 hb.1))
  have hB := hB.turn ht2 (fun h => Nat.lt_irrefl _ h.2)
  obtain ⟨⟨q0, q1, q2, q3, q4, q5⟩, q6⟩ := hB.bx
  have HAL := Lib.hid hal
  have HP2 := Lib.hid hp2
  have HT2 := Lib.hid ht2
  clear hp2 ht2 hal hB hP
  go_wp2_with fail
  refine (rcopy_some w2 n hnn hR (by omega) hu).mono ?_
  rintro e w3 ⟨rfl, hr3, ht3⟩
  have HR3 := Lib.hid hr3
  have HT3 := Lib.hid ht3
  clear hr3 ht3 hR q0 q1 q2 q3 q4 q5 q6
  go_wp2
  go_ret
  exact ⟨by simp, Played.both (P := fun _ => True) HAL.out (fun b h h' => hdis b h.1 h'.1) (fun b h => hpo b h.1) (fun b h => hro b h.1) (fun b h => h.2) (fun b h => h.2) HP2.out HT2.out (Below.refl _ _) HR3.out HT3.out⟩
set_option maxRecDepth 100000 in
set_option maxHeartbeats 2000000 in
theorem plays_trim (w : World) {ok : Nat → Prop} {pb rb : Nat} {All : List Md} (h : Pair w ok pb rb All) (s : Bool) (n x y : Int) (hnn : int64 n) (hxx : int64 x) {okb : Nat → Prop} {v : Value} {b : List UInt8} (hv : Bys w okb v b) (hn : All.length < 2199023255552) (hbn : Bnd All) :
    Calls Try.prog 15 #[.pointer (some ⟨pb, 0, none⟩), .pointer (some ⟨rb, 0, none⟩), .agg #[.int .i64 6, .bool s, .int .i64 n, .int .i64 x, .int .i64 y, v]] w fun e w' => e = .returned (.bool true) ∧ Played w w' ok pb rb (trimAt All n x) := by
  obtain ⟨A, c, rfl⟩ := hv.shape
  obtain ⟨okp, okr, hP, hR, hdis, hpo, hro⟩ := h
  obtain ⟨u, hu⟩ : ∃ u, under All n = u := ⟨_, rfl⟩
  have hul : (u.getD md0).b.length ≤ 140737488355328 := by
    cases u with
    | none => decide
    | some m => exact hbn m (under_mem hu)
  have hal := (Below.refl w.heap.size w).alloc (Nat.le_refl _) (.cells #[.int .i64 6, .bool s, .int .i64 n, .int .i64 x, .int .i64 y, .slice A b.length c] 28)
  have hB := Box6.new w 6 s n x y (.slice A b.length c)
  have hP := hP.bd.below hal
  have hR := hR.bd.below hal
  go_enter Try.func15, Try.ntmps15
  go_wp2
  generalize w.alloc (.cells #[.int .i64 6, .bool s, .int .i64 n, .int .i64 x, .int .i64 y, .slice A b.length c] 28) = W1 at *
  have hd := Below.drew (Below.refl W1.heap.size W1)
  have HQ1 := Lib.hid hB.bx.1
  have HB1 := Lib.hid hB
  have HP1 := Lib.hid (hP.below hd)
  have HR1 := Lib.hid (hR.below hd)
  have HAL := Lib.hid (Below.drew hal)
  clear hd hB hP hR hal
  go_region_held3 (fun w' => w'.cell? ⟨w.heap.size, 0, none⟩ = some (.int .i64 6) ∧ w'.cell? ⟨w.heap.size, 1, none⟩ = some (.bool s) ∧ w'.cell? ⟨w.heap.size, 2, none⟩ = some (.int .i64 n) ∧ w'.cell? ⟨w.heap.size, 3, none⟩ = some (.int .i64 x) ∧ w'.cell? ⟨w.heap.size, 4, none⟩ = some (.int .i64 y) ∧ w'.cell? ⟨w.heap.size, 5, none⟩ = some (.slice A b.length c))
    (first | with_reducible exact HQ3.out | with_reducible exact HQ2.out | exact HQ1.out)
    (first
      | (go_at_call 28; (refine (rtrim_calls w2 n hnn x hxx HR2.out (by omega) hu hul).mono ?_); rintro e w3 ⟨rfl, hr3, ht3⟩; have HQ3 := Lib.hid (HB2.out.turn ht3 (fun h => Nat.lt_irrefl _ h.2)).bx.1; have HR3 := Lib.hid hr3; have HT3 := Lib.hid ht3; clear hr3 ht3)
      | (go_at_call 13; (refine (trim_calls W1.drew n hnn x hxx HP1.out hu hul (by omega)).mono ?_); rintro e w2 ⟨rfl, hp2, ht2⟩; have HB2 := Lib.hid (Box6.turn (w := W1.drew) HB1.out ht2 (fun h => Nat.lt_irrefl _ h.2)); have HQ2 := Lib.hid HB2.out.bx.1; have HP2 := Lib.hid hp2; have HT2 := Lib.hid ht2; have HR2 := Lib.hid (HR1.out.loc (w' := w2) (fun b hb hlt => ht2.block b hlt (fun h => hdis b h.1 hb.1))); clear hp2 ht2))
  go_wp2
  go_ret
  have hT : Turn ok w w3 := ((Turn.of_below HAL.out).trans (HT2.out.mono fun b hb => .inl (hpo b hb.1))).trans (HT3.out.mono fun b hb => .inl (hro b hb.1))
  exact ⟨by simp, ⟨_, _, HP2.out.loc fun b hb hlt => HT3.out.block b hlt (fun h => hdis b hb.1 h.1), HR3.out, fun b h h' => hdis b h.1 h'.1, fun b h => .inl (hpo b h.1), fun b h => .inl (hro b h.1)⟩, hT⟩
set_option maxRecDepth 100000 in
set_option maxHeartbeats 2000000 in
theorem plays_wait (w : World) {ok : Nat → Prop} {pb rb : Nat} {All : List Md} (h : Pair w ok pb rb All) (s : Bool) (n x y : Int) (hnn : int64 n) (hxx : int64 x) {okb : Nat → Prop} {v : Value} {b : List UInt8} (hv : Bys w okb v b) (hn : All.length < 2199023255552) (hbn : Bnd All) :
    Calls Try.prog 15 #[.pointer (some ⟨pb, 0, none⟩), .pointer (some ⟨rb, 0, none⟩), .agg #[.int .i64 7, .bool s, .int .i64 n, .int .i64 x, .int .i64 y, v]] w fun e w' => e = .returned (.bool true) ∧ Played w w' ok pb rb All := by
  obtain ⟨A, c, rfl⟩ := hv.shape
  obtain ⟨okp, okr, hP, hR, hdis, hpo, hro⟩ := h
  have hP0 := hP
  have hR0 := hR
  obtain ⟨u, hu⟩ : ∃ u, under All n = u := ⟨_, rfl⟩
  have hul : (u.getD md0).b.length ≤ 140737488355328 := by
    cases u with
    | none => decide
    | some m => exact hbn m (under_mem hu)
  have hal := (Below.refl w.heap.size w).alloc (Nat.le_refl _) (.cells #[.int .i64 7, .bool s, .int .i64 n, .int .i64 x, .int .i64 y, .slice A b.length c] 28)
  have hB := Box6.new w 7 s n x y (.slice A b.length c)
  have hP := hP.bd.below hal
  have hR := hR.bd.below hal
  go_enter Try.func15, Try.ntmps15
  go_wp2_with fail
  generalize w.alloc (.cells #[.int .i64 7, .bool s, .int .i64 n, .int .i64 x, .int .i64 y, .slice A b.length c] 28) = W1 at *
  refine (waiting_calls W1 hP (by omega)).mono ?_
  rintro e w2 ⟨v2, rfl, ho2, hb2⟩
  have hO : RowO w2 (fun _ => True) 3 1 v2 (waits All).length ((waits All).map (Value.int .i64)) := ⟨⟨ho2.1, ho2.2.imp id fun ⟨g, c, cur, h1, h2, h3⟩ => ⟨g, c, cur, h1, Nat.zero_le _, h3⟩⟩, fun _ _ => trivial⟩
  have hR := hR.below hb2
  have hal := hal.trans (hb2.mono hal.size)
  clear ho2 hb2
  go_wp2_with fail
  refine (rwaiting_calls w2 hR (by omega)).mono ?_
  rintro e w3 ⟨v3, rfl, ho3, hb3⟩
  have hO := hO.below hb3
  have hal := hal.trans (hb3.mono hal.size)
  clear hb3
  go_wp2_with fail
  refine (sameInts_calls w3 (waits All) hO ho3 ?_).mono ?_
  · have := List.length_filter_le (fun k => (under All k).isSome) ((List.range All.length).map fun i : Nat => (i : Int) + 1)
    unfold waits
    simp at this
    omega
  rintro e w4 ⟨rfl, hb4⟩
  have HF := Lib.hid (hal.trans (hb4.mono hal.size))
  clear hb4 hal hO ho3 hR hP hB
  go_wp2
  go_ret
  exact ⟨rfl, Played.still ⟨okp, okr, hP0, hR0, hdis, hpo, hro⟩ HF.out⟩
set_option maxRecDepth 100000 in
set_option maxHeartbeats 2000000 in
theorem plays_made (w : World) {ok : Nat → Prop} {pb rb : Nat} {All : List Md} (h : Pair w ok pb rb All) (s : Bool) (n x y : Int) (hnn : int64 n) (hxx : int64 x) {okb : Nat → Prop} {v : Value} {b : List UInt8} (hv : Bys w okb v b) (hn : All.length < 2199023255552) (hbn : Bnd All) :
    Calls Try.prog 15 #[.pointer (some ⟨pb, 0, none⟩), .pointer (some ⟨rb, 0, none⟩), .agg #[.int .i64 8, .bool s, .int .i64 n, .int .i64 x, .int .i64 y, v]] w fun e w' => e = .returned (.bool true) ∧ Played w w' ok pb rb All := by
  obtain ⟨A, c, rfl⟩ := hv.shape
  obtain ⟨okp, okr, hP, hR, hdis, hpo, hro⟩ := h
  have hP0 := hP
  have hR0 := hR
  obtain ⟨u, hu⟩ : ∃ u, under All n = u := ⟨_, rfl⟩
  have hul : (u.getD md0).b.length ≤ 140737488355328 := by
    cases u with
    | none => decide
    | some m => exact hbn m (under_mem hu)
  have hal := (Below.refl w.heap.size w).alloc (Nat.le_refl _) (.cells #[.int .i64 8, .bool s, .int .i64 n, .int .i64 x, .int .i64 y, .slice A b.length c] 28)
  have hB := Box6.new w 8 s n x y (.slice A b.length c)
  have hP := hP.bd.below hal
  have hR := hR.bd.below hal
  go_enter Try.func15, Try.ntmps15
  go_wp2
  generalize w.alloc (.cells #[.int .i64 8, .bool s, .int .i64 n, .int .i64 x, .int .i64 y, .slice A b.length c] 28) = W1 at *
  have hd := Below.drew (Below.refl W1.heap.size W1)
  have hP := hP.below hd
  obtain ⟨v0, h1, h2, h3⟩ := hR.below hd
  obtain ⟨A0, c0, rfl, _⟩ := h3.shape
  have hc := (one_bx h1).1
  have HAL := Lib.hid (Below.drew hal)
  have H1 := Lib.hid h1
  clear hd hB h3 h1 hR hal
  go_region_held3 (fun w' => w'.cell? ⟨rb, 0, none⟩ = some (.slice A0 All.length c0))
    (first | with_reducible exact HQ2.out | exact hc)
    ((go_at_call 11; (refine (made_calls W1.drew hP).mono ?_); rintro e w2 ⟨rfl, hb2⟩; have HQ2 := Lib.hid (one_bx ((hb2.block _ (heap_lt H1.out)).trans H1.out)).1; have HF := Lib.hid (HAL.out.trans (hb2.mono HAL.out.size)); clear hb2))
  go_wp2
  go_ret
  exact ⟨by simp, Played.still ⟨okp, okr, hP0, hR0, hdis, hpo, hro⟩ HF.out⟩
set_option maxRecDepth 100000 in
set_option maxHeartbeats 2000000 in
theorem plays_other (w : World) {ok : Nat → Prop} {pb rb : Nat} {All : List Md} (h : Pair w ok pb rb All) (k : Int) (hk1 : k ≠ 1) (hk2 : k ≠ 2) (hk3 : k ≠ 3) (hk4 : k ≠ 4) (hk5 : k ≠ 5) (hk6 : k ≠ 6) (hk7 : k ≠ 7) (hk8 : k ≠ 8) (s : Bool) (n x y : Int) (hnn : int64 n) (hxx : int64 x) {okb : Nat → Prop} {v : Value} {b : List UInt8} (hv : Bys w okb v b) (hn : All.length < 2199023255552) (hbn : Bnd All) :
    Calls Try.prog 15 #[.pointer (some ⟨pb, 0, none⟩), .pointer (some ⟨rb, 0, none⟩), .agg #[.int .i64 k, .bool s, .int .i64 n, .int .i64 x, .int .i64 y, v]] w fun e w' => e = .returned (.bool true) ∧ Played w w' ok pb rb All := by
  obtain ⟨A, c, rfl⟩ := hv.shape
  obtain ⟨okp, okr, hP, hR, hdis, hpo, hro⟩ := h
  have hP0 := hP
  have hR0 := hR
  obtain ⟨u, hu⟩ : ∃ u, under All n = u := ⟨_, rfl⟩
  have hul : (u.getD md0).b.length ≤ 140737488355328 := by
    cases u with
    | none => decide
    | some m => exact hbn m (under_mem hu)
  have hal := (Below.refl w.heap.size w).alloc (Nat.le_refl _) (.cells #[.int .i64 k, .bool s, .int .i64 n, .int .i64 x, .int .i64 y, .slice A b.length c] 28)
  have hB := Box6.new w k s n x y (.slice A b.length c)
  have hP := hP.bd.below hal
  have hR := hR.bd.below hal
  have e1 : (k == 1) = false := by simpa using hk1
  have e2 : (k == 2) = false := by simpa using hk2
  have e3 : (k == 3) = false := by simpa using hk3
  have e4 : (k == 4) = false := by simpa using hk4
  have e5 : (k == 5) = false := by simpa using hk5
  have e6 : (k == 6) = false := by simpa using hk6
  have e7 : (k == 7) = false := by simpa using hk7
  have e8 : (k == 8) = false := by simpa using hk8
  have HF := Lib.hid hal
  clear hB hP hR hal hk1 hk2 hk3 hk4 hk5 hk6 hk7 hk8
  go_enter Try.func15, Try.ntmps15
  go_wp2
  go_ret
  exact ⟨rfl, Played.still ⟨okp, okr, hP0, hR0, hdis, hpo, hro⟩ HF.out⟩
/-- One step, whatever its kind. -/
theorem plays_calls (w : World) {ok okb : Nat → Prop} {pb rb : Nat} {All : List Md} (h : Pair w ok pb rb All) (k : Int) (s : Bool) (n x y : Int) (hnn : int64 n) (hxx : int64 x) {v : Value} {b : List UInt8} (hv : Bys w okb v b) (hvd : ∀ b, okb b → ¬ ok b) (hl : b.length ≤ 140737488355328) (hn : All.length < 2199023255552) (hbn : Bnd All) :
    Calls Try.prog 15 #[.pointer (some ⟨pb, 0, none⟩), .pointer (some ⟨rb, 0, none⟩), .agg #[.int .i64 k, .bool s, .int .i64 n, .int .i64 x, .int .i64 y, v]] w fun e w' => e = .returned (.bool true) ∧ Played w w' ok pb rb (playStep All k n x y b) := by
  unfold playStep
  by_cases h1 : k = 1
  · subst h1; simp only [if_true]; exact plays_put w h s n x y hv hvd hl hn
  rw [if_neg h1]
  by_cases h3 : k = 3
  · subst h3; rw [if_pos (.inl rfl)]; exact plays_take w h s n x y hnn hxx hv hn hbn
  by_cases h4 : k = 4
  · subst h4; rw [if_pos (.inr rfl)]; exact plays_drop w h s n x y hnn hxx hv hn hbn
  rw [if_neg (by omega)]
  by_cases h5 : k = 5
  · subst h5
    simp only [if_true]
    cases hu : under All n with
    | none => exact plays_copy_none w h s n x y hnn hxx hv hn hbn hu
    | some m => exact plays_copy_some w h s n x y hnn hxx hv hn hbn hu
  rw [if_neg h5]
  by_cases h6 : k = 6
  · subst h6; simp only [if_true]; exact plays_trim w h s n x y hnn hxx hv hn hbn
  rw [if_neg h6]
  by_cases h2 : k = 2
  · subst h2; exact plays_look w h s n x y hnn hxx hv hn hbn
  by_cases h7 : k = 7
  · subst h7; exact plays_wait w h s n x y hnn hxx hv hn hbn
  by_cases h8 : k = 8
  · subst h8; exact plays_made w h s n x y hnn hxx hv hn hbn
  exact plays_other w h k h1 h2 h3 h4 h5 h6 h7 h8 s n x y hnn hxx hv hn hbn
end Go.Proofs.Ytdgcmihnbkamgaa
