/- PoolCopies: the walk of the statement. Conditions: the script as its memory says; at most 2^41 steps. -/
import Derived.Test.YtdgcmihnbkamgaaPoolE
namespace Go.Proofs.Ytdgcmihnbkamgaa
open Go.RowKit
set_option linter.unusedVariables false
set_option linter.unusedSimpArgs false
set_option maxRecDepth 100000 in
set_option maxHeartbeats 4000000 in
theorem PoolCopies_calls (w : World) (A : Option Addr) (n c : Nat) (ops : List OpR) (hlen : ops.length = n) (hn : n ≤ 2199023255552) (hsc : ScAt w A ops) :
    Calls Try.prog 3 #[.slice A n c] w fun e w' => e = .returned (.bool true) ∧ Below w.heap.size w w' := by
  have HSC := Lib.hid hsc
  have HLEN := Lib.hid hlen
  clear hsc hlen
  go_enter Try.func3, Try.ntmps3
  go_wp2_with (first
    | (go_at_call 7; refine (fixed_calls _).mono ?_; rintro e w1 ⟨rfl, hb⟩; have HB1 := Lib.hid hb; clear hb)
    | (go_at_call 8; refine (new_calls _).mono ?_; rintro e w2 ⟨pb, rfl, hpb, hp, hb⟩; have HP2 := Lib.hid hp; have HB2 := Lib.hid (HB1.out.trans (hb.mono HB1.out.size)); clear hp hb))
  have HI : Hid (Inv w w2 pb [] 0) := Lib.hid ⟨HP2.out.mono fun b hb => Nat.le_trans HB1.out.size hb, HB2.out, Nat.le_refl _, fun m hm => by cases hm⟩
  go_loopg [4] n (fun k v4 wr => ∃ (i : Nat) (All : List Md), i ≤ n ∧ v4 = .int .i64 i ∧ k = n - i ∧ Hid (Inv w wr pb All i))
  case atStart => exact ⟨0, [], Nat.zero_le _, rfl, rfl, HI⟩
  case round =>
    obtain ⟨i, All, hi, rfl, hq, HIr⟩ := hrel
    have HQ := Lib.hid hq
    clear hq HI HP2 HB2 HB1
    by_cases hil : i < n
    · obtain ⟨o, ho⟩ : ∃ o, ops[i]? = some o := ⟨ops[i]'(by have := HLEN.out; omega), List.getElem?_eq_getElem _⟩
      obtain ⟨⟨ok1, ok2, ok3, ok4, ok5, ok6⟩, a, rfl, x0, x1, x2, x3, x4, x5⟩ := HSC.out i o ho
      have y0 := cell_keeps HIr.out.bl _ _ x0
      have y1 := cell_keeps HIr.out.bl _ _ x1
      have y2 := cell_keeps HIr.out.bl _ _ x2
      have y3 := cell_keeps HIr.out.bl _ _ x3
      have y4 := cell_keeps HIr.out.bl _ _ x4
      have y5 := cell_keeps HIr.out.bl _ _ x5
      clear x0 x1 x2 x3 x4 x5
      have hlt : (i : Int) < (n : Int) := by omega
      have hdec : decide ((i : Int) < (n : Int)) = true := decide_eq_true hlt
      have hu28 := Try.underlying28
      obtain ⟨bA, bc, hv⟩ := ok5.shape
      obtain ⟨ok, os, on, ox, oy, ov, ob⟩ := o
      simp only at *
      subst hv
      have HP0 := Lib.hid HIr.out.pool.bd
      by_cases hk1 : ok = 1
      · subst hk1
        go_wp2
        have hal := (Below.refl wr.heap.size wr).alloc (Nat.le_refl _) (.cells #[.int .i64 1, .bool os, .int .i64 on, .int .i64 ox, .int .i64 oy, .slice bA ob.length bc] 28)
        have hB1 := Box6.new wr 1 os on ox oy (.slice bA ob.length bc)
        have hI1 : Inv w (wr.alloc (.cells #[.int .i64 1, .bool os, .int .i64 on, .int .i64 ox, .int .i64 oy, .slice bA ob.length bc] 28)) pb All i := HIr.out.below hal
        generalize wr.alloc (.cells #[.int .i64 1, .bool os, .int .i64 on, .int .i64 ox, .int .i64 oy, .slice bA ob.length bc] 28) = W1 at *
        have hby := (ok5.keep hI1.bl).below (Below.drew (Below.refl W1.heap.size W1))
        obtain ⟨v', w3, hr, ho3, hb3⟩ := fresh_append W1.drew 26 hby ok6
        obtain ⟨A', c', rfl⟩ := ho3.bys.shape
        have hr' : (Builtin.append_ #[26, 26] 26 #[.slice (some ⟨W1.heap.size, 0, none⟩) 0 0, .slice bA ob.length bc]).run Try.prog (W1.alloc (.cells #[] 5)).drew = .ok (.slice A' ob.length c') w3 := hr
        have hb3' : Below W1.heap.size W1 w3 := (Below.drew (Below.refl W1.heap.size W1)).trans hb3
        have HR := Lib.hid hr'
        have HI3 := Lib.hid (hI1.below hb3')
        have HP3 := Lib.hid ((HP0.out.below hal).below hb3')
        have hB3 := hB1.below hb3'
        have HB3 := Lib.hid hB3
        have HQ1 := Lib.hid hB1.bx.1
        have HQ2 := Lib.hid (Box6.bx (show Box6 (W1.alloc (.cells #[] 5)).drew _ _ _ _ _ _ _ from hB1.below (Below.drew ((Below.refl _ _).alloc (Nat.le_refl _) _)))).1
        have HQ3 := Lib.hid (hB1.below hb3').bx.1
        have HO3 := Lib.hid ho3.bys
        have hlen' : All.length < 140737488355328 := by have := hI1.len; omega
        clear hr hr' hb3 hb3' ho3 hby hB1 hI1 hal hB3
        go_region_held3 (fun w' => w'.cell? ⟨wr.heap.size, 0, none⟩ = some (.int .i64 1) ∧ w'.cell? ⟨wr.heap.size, 1, none⟩ = some (.bool os) ∧ w'.cell? ⟨wr.heap.size, 2, none⟩ = some (.int .i64 on) ∧ w'.cell? ⟨wr.heap.size, 3, none⟩ = some (.int .i64 ox) ∧ w'.cell? ⟨wr.heap.size, 4, none⟩ = some (.int .i64 oy) ∧ w'.cell? ⟨wr.heap.size, 5, none⟩ = some (.slice bA ob.length bc))
          (first | with_reducible exact HQ4.out | with_reducible exact HQ3.out | with_reducible exact HQ2.out | exact HQ1.out)
          (first
            | (go_at_call 9; (refine (put_calls w3 ox oy HP3.out HO3.out ok6 hlen').mono ?_); rintro e w4 ⟨rfl, hp4, ht4⟩; have HQ4 := Lib.hid (HB3.out.turn ht4 (fun h => by omega)).bx.1; have HP4 := Lib.hid hp4; have HT4 := Lib.hid ht4; clear hp4 ht4)
            | (refine step_append_run (by rfl) _ _ _ (by rfl) (by rfl) (by rfl) HR.out ?_))
        go_wp2
        have hI4 : Inv w w4 pb (All ++ [⟨ox, oy, ob, false⟩]) (i + 1) := ⟨HP4.out.mono fun b hb => hb.elim (fun h => h.1) fun h => Nat.le_trans HI3.out.bl.size h, HI3.out.bl.trans (HT4.out.below (fun b hb h => by omega) HI3.out.bl.size), by have := HI3.out.len; simp; omega, HI3.out.bnd.snoc ok6⟩
        go_roundg (n - (i + 1))
        case measure => have := HQ.out; omega
        case rel => exact ⟨i + 1, _, by omega, by go_num, rfl, Lib.hid hI4⟩
      · have hk1' : (ok == 1) = false := by simpa using hk1
        cases hx : under All on with
        | none =>
          go_wp2_with fail
          have hal := (Below.refl wr.heap.size wr).alloc (Nat.le_refl _) (.cells #[.int .i64 ok, .bool os, .int .i64 on, .int .i64 ox, .int .i64 oy, .slice bA ob.length bc] 28)
          have hB := Box6.new wr ok os on ox oy (.slice bA ob.length bc)
          have hI := HIr.out.below hal
          clear hal
          generalize wr.alloc (.cells #[.int .i64 ok, .bool os, .int .i64 on, .int .i64 ox, .int .i64 oy, .slice bA ob.length bc] 28) = W1 at *
          refine (look_none W1 on ok2 hI.pool hx).mono ?_
          rintro e w2 ⟨rfl, hb2⟩
          unfold letter0
          have hB := hB.below hb2
          have hI := hI.below hb2
          clear hb2
          go_wp2_with fail
          have hal := (Below.refl w2.heap.size w2).alloc (Nat.le_refl _) (.cells #[.int .i64 0, .int .i64 0, .slice none 0 0] 31)
          have hB := hB.below hal
          have hI := hI.below hal
          clear hal
          generalize w2.alloc (.cells #[.int .i64 0, .int .i64 0, .slice none 0 0] 31) = W3 at *
          refine (made_calls W3 hI.pool).mono ?_
          rintro e w4 ⟨rfl, hb4⟩
          have hB := hB.below hb4
          have hI := hI.below hb4
          clear hb4
          obtain ⟨⟨q0, q1, q2, q3, q4, q5⟩, q6⟩ := hB.bx
          go_wp2_with fail
          refine (copy_none w4 on ok2 hI.pool hx).mono ?_
          rintro e w5 ⟨rfl, hb5⟩
          have hB := hB.below hb5
          have hI := hI.below hb5
          clear hb5 q0 q1 q2 q3 q4 q5 q6
          go_wp2_with fail
          refine (made_calls w5 hI.pool).mono ?_
          rintro e w6 ⟨rfl, hb6⟩
          have hI := hI.below hb6
          clear hb6
          have HI6 := Lib.hid (show Inv w w6 pb All (i + 1) from ⟨hI.pool, hI.bl, Nat.le_succ_of_le hI.len, hI.bnd⟩)
          clear hI hB
          go_wp2
          go_roundg (n - (i + 1))
          case measure => have := HQ.out; omega
          case rel => exact ⟨i + 1, _, by omega, by go_num, rfl, HI6⟩
        | some m =>
          have hlen' : All.length < 140737488355328 := by have := HIr.out.len; omega
          have hlen2 : (All ++ [(⟨m.f, m.t, m.b, false⟩ : Md)]).length < 140737488355328 := by have := HIr.out.len; simp; omega
          have hnl : int64 ((All.length : Int) + 1) := by unfold int64; omega
          have hw : IntKind.i64.wrap ((All.length : Int) + 1) = (All.length : Int) + 1 := by rw [IntKind.wrap_i64]; omega
          have hnew := under_new All m.f m.t m.b
          obtain ⟨hxn, hne'⟩ := under_old hx ⟨m.f, m.t, m.b, false⟩
          have hne : (All.length : Int) + 1 ≠ on := Ne.symm hne'
          have hox := ok3
          unfold int64 at hox
          cases os with
          | false =>
            by_cases hcut : ox < 1
            · by_cases hk4 : ok = 4
              · subst hk4
                go_wp2_with fail
                have hal := (Below.refl wr.heap.size wr).alloc (Nat.le_refl _) (.cells #[.int .i64 4, .bool false, .int .i64 on, .int .i64 ox, .int .i64 oy, .slice bA ob.length bc] 28)
                have hB := Box6.new wr 4 false on ox oy (.slice bA ob.length bc)
                have hP := HP0.out.below hal
                have hbl := HIr.out.bl.trans (hal.mono HIr.out.bl.size)
                have hs1 : (wr.alloc (.cells #[.int .i64 4, .bool false, .int .i64 on, .int .i64 ox, .int .i64 oy, .slice bA ob.length bc] 28)).heap.size = wr.heap.size + 1 := by simp
                have hs0 := HIr.out.bl.size
                clear hal
                generalize wr.alloc (.cells #[.int .i64 4, .bool false, .int .i64 on, .int .i64 ox, .int .i64 oy, .slice bA ob.length bc] 28) = W1 at *
                have hml := HIr.out.bnd m (under_mem hx)
                refine (look_some W1 on ok2 hP hx hml).mono ?_
                rintro e w2 ⟨A2, c2, rfl, ho2, hb2⟩
                have hO2 := ho2.bys
                have hB := hB.below hb2
                have hbl := hbl.trans (hb2.mono hbl.size)
                have hP := hP.below hb2
                have hs2 := hb2.size
                clear ho2 hb2
                go_wp2_with fail
                have hal := (Below.refl w2.heap.size w2).alloc (Nat.le_refl _) (.cells #[.int .i64 m.f, .int .i64 m.t, .slice A2 m.b.length c2] 31)
                have hC := Box3.new w2 (.int .i64 m.f) (.int .i64 m.t) (.slice A2 m.b.length c2)
                have hs3 : (w2.alloc (.cells #[.int .i64 m.f, .int .i64 m.t, .slice A2 m.b.length c2] 31)).heap.size = w2.heap.size + 1 := by simp
                have hB := hB.below hal
                have hbl := hbl.trans (hal.mono hbl.size)
                have hP := hP.below hal
                have hO2 := hO2.below hal
                clear hal
                generalize w2.alloc (.cells #[.int .i64 m.f, .int .i64 m.t, .slice A2 m.b.length c2] 31) = W3 at *
                refine (made_calls W3 hP).mono ?_
                rintro e w4 ⟨rfl, hb4⟩
                have hs4 := hb4.size
                have hB := hB.below hb4
                have hbl := hbl.trans (hb4.mono hbl.size)
                have hP := hP.below hb4
                have hO2 := hO2.below hb4
                have hC := hC.below hb4
                clear hb4
                obtain ⟨⟨q0, q1, q2, q3, q4, q5⟩, q6⟩ := hB.bx
                go_wp2_with fail
                refine (copy_some w4 on ok2 hP hx hml hlen').mono ?_
                rintro e w5 ⟨rfl, hp5, ht5⟩
                have hB := hB.turn ht5 (fun h => by (try unfold grow at h); omega)
                have hbl := hbl.trans (ht5.below (B := w.heap.size) (fun b hb h => by (try unfold grow at h); omega) hbl.size)
                have hO2 := hO2.turn ht5 (fun b hb h => by (try unfold grow at h); omega)
                have hC := hC.turn ht5 (fun h => by (try unfold grow at h); omega)
                have hP := hp5.bd
                have hs5 := ht5.size
                clear ht5 hp5 q0 q1 q2 q3 q4 q5 q6
                go_wp2_with fail
                refine (look_some w5 (All.length + 1) hnl hP hnew hml).mono ?_
                rintro e w6 ⟨A6, c6, rfl, ho6, hb6⟩
                have hO6 := ho6.bys
                have hB := hB.below hb6
                have hbl := hbl.trans (hb6.mono hbl.size)
                have hP := hP.below hb6
                have hO2 := hO2.below hb6
                have hC := hC.below hb6
                have hs6 := hb6.size
                clear ho6 hb6
                have hal := (Below.refl w6.heap.size w6).alloc (Nat.le_refl _) (.cells #[.int .i64 m.f, .int .i64 m.t, .slice A6 m.b.length c6] 31)
                have hD := Box3.new w6 (.int .i64 m.f) (.int .i64 m.t) (.slice A6 m.b.length c6)
                have hs7 : (w6.alloc (.cells #[.int .i64 m.f, .int .i64 m.t, .slice A6 m.b.length c6] 31)).heap.size = w6.heap.size + 1 := by simp
                have hB := hB.below hal
                have hbl := hbl.trans (hal.mono hbl.size)
                have hP := hP.below hal
                have hO2 := hO2.below hal
                have hC := hC.below hal
                have hO6 := hO6.below hal
                clear hal
                obtain ⟨⟨q0, q1, q2, q3, q4, q5⟩, q6⟩ := hB.bx
                obtain ⟨⟨r0, r1, r2⟩, _, _, _⟩ := hC.bx
                obtain ⟨⟨t0, t1, t2⟩, _, _, _⟩ := hD.bx
                have s2 := hO2.str
                have s6 := hO6.str
                go_wp2_with fail
                clear q0 q1 q2 q3 q4 q5 q6 r0 r1 r2 t0 t1 t2 s2 s6
                generalize w6.alloc (.cells #[.int .i64 m.f, .int .i64 m.t, .slice A6 m.b.length c6] 31) = W7 at *
                refine (trim_cut W7 on ok2 1 (by omega) (by omega) hP hxn hml hlen2).mono ?_
                rintro e w9 ⟨rfl, hp9, ht9⟩
                have hB := hB.turn ht9 (fun h => by (try unfold grow at h); omega)
                have hbl := hbl.trans (ht9.below (B := w.heap.size) (fun b hb h => by (try unfold grow at h); omega) hbl.size)
                have hO2 := hO2.turn ht9 (fun b hb h => by (try unfold grow at h); omega)
                have hC := hC.turn ht9 (fun h => by (try unfold grow at h); omega)
                have hO6 := hO6.turn ht9 (fun b hb h => by (try unfold grow at h); omega)
                have hD := hD.turn ht9 (fun h => by (try unfold grow at h); omega)
                have hP := hp9
                clear ht9 hp9
                have hy := under_keep (m' := { m with b := cutOf m.b 1 }) hxn hnew hne
                have hbn := HIr.out.bnd.snoc (m := ⟨m.f, m.t, m.b, false⟩) hml
                have hbn := hbn.set (m := { m with b := cutOf m.b 1 }) (Nat.le_trans (cutOf_le _ _) hml) ((on : Int).toNat - 1)
                have hll : ((All ++ [(⟨m.f, m.t, m.b, false⟩ : Md)]).set ((on : Int).toNat - 1) { m with b := cutOf m.b 1 }).length = All.length + 1 := by simp
                generalize (All ++ [(⟨m.f, m.t, m.b, false⟩ : Md)]).set ((on : Int).toNat - 1) { m with b := cutOf m.b 1 } = All2 at *
                obtain ⟨⟨q0, q1, q2, q3, q4, q5⟩, q6⟩ := hB.bx
                go_wp2_with fail
                obtain ⟨x2, hx2⟩ : ∃ x, under All2 on = x := ⟨_, rfl⟩
                have hx3 : (x2.getD md0).b.length ≤ 140737488355328 := by cases x2 with | none => decide | some m2 => exact hbn m2 (under_mem hx2)
                refine (drop_calls w9 on ok2 hP hx2 hx3).mono ?_
                rintro e w10 ⟨rfl, hp10, ht10⟩
                have hB := hB.turn ht10 (fun h => by (try unfold grow at h); omega)
                have hbl := hbl.trans (ht10.below (B := w.heap.size) (fun b hb h => by (try unfold grow at h); omega) hbl.size)
                have hO2 := hO2.turn ht10 (fun b hb h => by (try unfold grow at h); omega)
                have hC := hC.turn ht10 (fun h => by (try unfold grow at h); omega)
                have hO6 := hO6.turn ht10 (fun b hb h => by (try unfold grow at h); omega)
                have hD := hD.turn ht10 (fun h => by (try unfold grow at h); omega)
                have hP := hp10
                clear ht10 hp10 q0 q1 q2 q3 q4 q5 q6
                have hy := under_left (x := on) hy hne
                have hbn := hbn.spent on
                have hll := (spentAt_length All2 on).trans hll
                generalize spentAt All2 on = All3 at *
                go_wp2_with fail
                refine (look_some w10 (All.length + 1) hnl hP hy hml).mono ?_
                rintro e w11 ⟨A11, c11, rfl, ho11, hb11⟩
                have hO11 := ho11.bys
                have hs10 := hbl.size
                have hB := hB.below hb11
                have hbl := hbl.trans (hb11.mono hbl.size)
                have hP := hP.below hb11
                have hO2 := hO2.below hb11
                have hC := hC.below hb11
                have hO6 := hO6.below hb11
                have hD := hD.below hb11
                clear ho11 hb11
                have hal := (Below.refl w11.heap.size w11).alloc (Nat.le_refl _) (.cells #[.int .i64 m.f, .int .i64 m.t, .slice A11 m.b.length c11] 31)
                have hE := Box3.new w11 (.int .i64 m.f) (.int .i64 m.t) (.slice A11 m.b.length c11)
                have hB := hB.below hal
                have hbl := hbl.trans (hal.mono hbl.size)
                have hP := hP.below hal
                have hO2 := hO2.below hal
                have hC := hC.below hal
                have hO6 := hO6.below hal
                have hD := hD.below hal
                have hO11 := hO11.below hal
                clear hal
                obtain ⟨⟨r0, r1, r2⟩, _, _, _⟩ := hC.bx
                obtain ⟨⟨t0, t1, t2⟩, _, _, _⟩ := hE.bx
                have s2 := hO2.str
                have s6 := hO11.str
                have HI6 := Lib.hid (show Inv w (w11.alloc (.cells #[.int .i64 m.f, .int .i64 m.t, .slice A11 m.b.length c11] 31)) pb All3 (i + 1) from ⟨hP.mono fun b hb => by unfold grow at hb; omega, hbl, by have := HIr.out.len; omega, hbn⟩)
                clear hP hB hC hD hE hO2 hO6 hO11 hbl hbn
                go_wp2
                go_roundg (n - (i + 1))
                case measure => have := HQ.out; omega
                case rel => exact ⟨i + 1, _, by omega, by go_num, rfl, HI6⟩
              · have hk4' : (ok == 4) = false := by simpa using hk4
                go_wp2_with fail
                have hal := (Below.refl wr.heap.size wr).alloc (Nat.le_refl _) (.cells #[.int .i64 ok, .bool false, .int .i64 on, .int .i64 ox, .int .i64 oy, .slice bA ob.length bc] 28)
                have hB := Box6.new wr ok false on ox oy (.slice bA ob.length bc)
                have hP := HP0.out.below hal
                have hbl := HIr.out.bl.trans (hal.mono HIr.out.bl.size)
                have hs1 : (wr.alloc (.cells #[.int .i64 ok, .bool false, .int .i64 on, .int .i64 ox, .int .i64 oy, .slice bA ob.length bc] 28)).heap.size = wr.heap.size + 1 := by simp
                have hs0 := HIr.out.bl.size
                clear hal
                generalize wr.alloc (.cells #[.int .i64 ok, .bool false, .int .i64 on, .int .i64 ox, .int .i64 oy, .slice bA ob.length bc] 28) = W1 at *
                have hml := HIr.out.bnd m (under_mem hx)
                refine (look_some W1 on ok2 hP hx hml).mono ?_
                rintro e w2 ⟨A2, c2, rfl, ho2, hb2⟩
                have hO2 := ho2.bys
                have hB := hB.below hb2
                have hbl := hbl.trans (hb2.mono hbl.size)
                have hP := hP.below hb2
                have hs2 := hb2.size
                clear ho2 hb2
                go_wp2_with fail
                have hal := (Below.refl w2.heap.size w2).alloc (Nat.le_refl _) (.cells #[.int .i64 m.f, .int .i64 m.t, .slice A2 m.b.length c2] 31)
                have hC := Box3.new w2 (.int .i64 m.f) (.int .i64 m.t) (.slice A2 m.b.length c2)
                have hs3 : (w2.alloc (.cells #[.int .i64 m.f, .int .i64 m.t, .slice A2 m.b.length c2] 31)).heap.size = w2.heap.size + 1 := by simp
                have hB := hB.below hal
                have hbl := hbl.trans (hal.mono hbl.size)
                have hP := hP.below hal
                have hO2 := hO2.below hal
                clear hal
                generalize w2.alloc (.cells #[.int .i64 m.f, .int .i64 m.t, .slice A2 m.b.length c2] 31) = W3 at *
                refine (made_calls W3 hP).mono ?_
                rintro e w4 ⟨rfl, hb4⟩
                have hs4 := hb4.size
                have hB := hB.below hb4
                have hbl := hbl.trans (hb4.mono hbl.size)
                have hP := hP.below hb4
                have hO2 := hO2.below hb4
                have hC := hC.below hb4
                clear hb4
                obtain ⟨⟨q0, q1, q2, q3, q4, q5⟩, q6⟩ := hB.bx
                go_wp2_with fail
                refine (copy_some w4 on ok2 hP hx hml hlen').mono ?_
                rintro e w5 ⟨rfl, hp5, ht5⟩
                have hB := hB.turn ht5 (fun h => by (try unfold grow at h); omega)
                have hbl := hbl.trans (ht5.below (B := w.heap.size) (fun b hb h => by (try unfold grow at h); omega) hbl.size)
                have hO2 := hO2.turn ht5 (fun b hb h => by (try unfold grow at h); omega)
                have hC := hC.turn ht5 (fun h => by (try unfold grow at h); omega)
                have hP := hp5.bd
                have hs5 := ht5.size
                clear ht5 hp5 q0 q1 q2 q3 q4 q5 q6
                go_wp2_with fail
                refine (look_some w5 (All.length + 1) hnl hP hnew hml).mono ?_
                rintro e w6 ⟨A6, c6, rfl, ho6, hb6⟩
                have hO6 := ho6.bys
                have hB := hB.below hb6
                have hbl := hbl.trans (hb6.mono hbl.size)
                have hP := hP.below hb6
                have hO2 := hO2.below hb6
                have hC := hC.below hb6
                have hs6 := hb6.size
                clear ho6 hb6
                have hal := (Below.refl w6.heap.size w6).alloc (Nat.le_refl _) (.cells #[.int .i64 m.f, .int .i64 m.t, .slice A6 m.b.length c6] 31)
                have hD := Box3.new w6 (.int .i64 m.f) (.int .i64 m.t) (.slice A6 m.b.length c6)
                have hs7 : (w6.alloc (.cells #[.int .i64 m.f, .int .i64 m.t, .slice A6 m.b.length c6] 31)).heap.size = w6.heap.size + 1 := by simp
                have hB := hB.below hal
                have hbl := hbl.trans (hal.mono hbl.size)
                have hP := hP.below hal
                have hO2 := hO2.below hal
                have hC := hC.below hal
                have hO6 := hO6.below hal
                clear hal
                obtain ⟨⟨q0, q1, q2, q3, q4, q5⟩, q6⟩ := hB.bx
                obtain ⟨⟨r0, r1, r2⟩, _, _, _⟩ := hC.bx
                obtain ⟨⟨t0, t1, t2⟩, _, _, _⟩ := hD.bx
                have s2 := hO2.str
                have s6 := hO6.str
                go_wp2_with fail
                clear q0 q1 q2 q3 q4 q5 q6 r0 r1 r2 t0 t1 t2 s2 s6
                generalize w6.alloc (.cells #[.int .i64 m.f, .int .i64 m.t, .slice A6 m.b.length c6] 31) = W7 at *
                refine (trim_cut W7 on ok2 1 (by omega) (by omega) hP hxn hml hlen2).mono ?_
                rintro e w9 ⟨rfl, hp9, ht9⟩
                have hB := hB.turn ht9 (fun h => by (try unfold grow at h); omega)
                have hbl := hbl.trans (ht9.below (B := w.heap.size) (fun b hb h => by (try unfold grow at h); omega) hbl.size)
                have hO2 := hO2.turn ht9 (fun b hb h => by (try unfold grow at h); omega)
                have hC := hC.turn ht9 (fun h => by (try unfold grow at h); omega)
                have hO6 := hO6.turn ht9 (fun b hb h => by (try unfold grow at h); omega)
                have hD := hD.turn ht9 (fun h => by (try unfold grow at h); omega)
                have hP := hp9
                clear ht9 hp9
                have hy := under_keep (m' := { m with b := cutOf m.b 1 }) hxn hnew hne
                have hbn := HIr.out.bnd.snoc (m := ⟨m.f, m.t, m.b, false⟩) hml
                have hbn := hbn.set (m := { m with b := cutOf m.b 1 }) (Nat.le_trans (cutOf_le _ _) hml) ((on : Int).toNat - 1)
                have hll : ((All ++ [(⟨m.f, m.t, m.b, false⟩ : Md)]).set ((on : Int).toNat - 1) { m with b := cutOf m.b 1 }).length = All.length + 1 := by simp
                generalize (All ++ [(⟨m.f, m.t, m.b, false⟩ : Md)]).set ((on : Int).toNat - 1) { m with b := cutOf m.b 1 } = All2 at *
                obtain ⟨⟨q0, q1, q2, q3, q4, q5⟩, q6⟩ := hB.bx
                go_wp2_with fail
                clear q0 q1 q2 q3 q4 q5 q6
                refine (look_some w9 (All.length + 1) hnl hP hy hml).mono ?_
                rintro e w11 ⟨A11, c11, rfl, ho11, hb11⟩
                have hO11 := ho11.bys
                have hs10 := hbl.size
                have hB := hB.below hb11
                have hbl := hbl.trans (hb11.mono hbl.size)
                have hP := hP.below hb11
                have hO2 := hO2.below hb11
                have hC := hC.below hb11
                have hO6 := hO6.below hb11
                have hD := hD.below hb11
                clear ho11 hb11
                have hal := (Below.refl w11.heap.size w11).alloc (Nat.le_refl _) (.cells #[.int .i64 m.f, .int .i64 m.t, .slice A11 m.b.length c11] 31)
                have hE := Box3.new w11 (.int .i64 m.f) (.int .i64 m.t) (.slice A11 m.b.length c11)
                have hB := hB.below hal
                have hbl := hbl.trans (hal.mono hbl.size)
                have hP := hP.below hal
                have hO2 := hO2.below hal
                have hC := hC.below hal
                have hO6 := hO6.below hal
                have hD := hD.below hal
                have hO11 := hO11.below hal
                clear hal
                obtain ⟨⟨r0, r1, r2⟩, _, _, _⟩ := hC.bx
                obtain ⟨⟨t0, t1, t2⟩, _, _, _⟩ := hE.bx
                have s2 := hO2.str
                have s6 := hO11.str
                have HI6 := Lib.hid (show Inv w (w11.alloc (.cells #[.int .i64 m.f, .int .i64 m.t, .slice A11 m.b.length c11] 31)) pb All2 (i + 1) from ⟨hP.mono fun b hb => by unfold grow at hb; omega, hbl, by have := HIr.out.len; omega, hbn⟩)
                clear hP hB hC hD hE hO2 hO6 hO11 hbl hbn
                go_wp2
                go_roundg (n - (i + 1))
                case measure => have := HQ.out; omega
                case rel => exact ⟨i + 1, _, by omega, by go_num, rfl, HI6⟩
            · by_cases hk4 : ok = 4
              · subst hk4
                go_wp2_with fail
                have hal := (Below.refl wr.heap.size wr).alloc (Nat.le_refl _) (.cells #[.int .i64 4, .bool false, .int .i64 on, .int .i64 ox, .int .i64 oy, .slice bA ob.length bc] 28)
                have hB := Box6.new wr 4 false on ox oy (.slice bA ob.length bc)
                have hP := HP0.out.below hal
                have hbl := HIr.out.bl.trans (hal.mono HIr.out.bl.size)
                have hs1 : (wr.alloc (.cells #[.int .i64 4, .bool false, .int .i64 on, .int .i64 ox, .int .i64 oy, .slice bA ob.length bc] 28)).heap.size = wr.heap.size + 1 := by simp
                have hs0 := HIr.out.bl.size
                clear hal
                generalize wr.alloc (.cells #[.int .i64 4, .bool false, .int .i64 on, .int .i64 ox, .int .i64 oy, .slice bA ob.length bc] 28) = W1 at *
                have hml := HIr.out.bnd m (under_mem hx)
                refine (look_some W1 on ok2 hP hx hml).mono ?_
                rintro e w2 ⟨A2, c2, rfl, ho2, hb2⟩
                have hO2 := ho2.bys
                have hB := hB.below hb2
                have hbl := hbl.trans (hb2.mono hbl.size)
                have hP := hP.below hb2
                have hs2 := hb2.size
                clear ho2 hb2
                go_wp2_with fail
                have hal := (Below.refl w2.heap.size w2).alloc (Nat.le_refl _) (.cells #[.int .i64 m.f, .int .i64 m.t, .slice A2 m.b.length c2] 31)
                have hC := Box3.new w2 (.int .i64 m.f) (.int .i64 m.t) (.slice A2 m.b.length c2)
                have hs3 : (w2.alloc (.cells #[.int .i64 m.f, .int .i64 m.t, .slice A2 m.b.length c2] 31)).heap.size = w2.heap.size + 1 := by simp
                have hB := hB.below hal
                have hbl := hbl.trans (hal.mono hbl.size)
                have hP := hP.below hal
                have hO2 := hO2.below hal
                clear hal
                generalize w2.alloc (.cells #[.int .i64 m.f, .int .i64 m.t, .slice A2 m.b.length c2] 31) = W3 at *
                refine (made_calls W3 hP).mono ?_
                rintro e w4 ⟨rfl, hb4⟩
                have hs4 := hb4.size
                have hB := hB.below hb4
                have hbl := hbl.trans (hb4.mono hbl.size)
                have hP := hP.below hb4
                have hO2 := hO2.below hb4
                have hC := hC.below hb4
                clear hb4
                obtain ⟨⟨q0, q1, q2, q3, q4, q5⟩, q6⟩ := hB.bx
                go_wp2_with fail
                refine (copy_some w4 on ok2 hP hx hml hlen').mono ?_
                rintro e w5 ⟨rfl, hp5, ht5⟩
                have hB := hB.turn ht5 (fun h => by (try unfold grow at h); omega)
                have hbl := hbl.trans (ht5.below (B := w.heap.size) (fun b hb h => by (try unfold grow at h); omega) hbl.size)
                have hO2 := hO2.turn ht5 (fun b hb h => by (try unfold grow at h); omega)
                have hC := hC.turn ht5 (fun h => by (try unfold grow at h); omega)
                have hP := hp5.bd
                have hs5 := ht5.size
                clear ht5 hp5 q0 q1 q2 q3 q4 q5 q6
                go_wp2_with fail
                refine (look_some w5 (All.length + 1) hnl hP hnew hml).mono ?_
                rintro e w6 ⟨A6, c6, rfl, ho6, hb6⟩
                have hO6 := ho6.bys
                have hB := hB.below hb6
                have hbl := hbl.trans (hb6.mono hbl.size)
                have hP := hP.below hb6
                have hO2 := hO2.below hb6
                have hC := hC.below hb6
                have hs6 := hb6.size
                clear ho6 hb6
                have hal := (Below.refl w6.heap.size w6).alloc (Nat.le_refl _) (.cells #[.int .i64 m.f, .int .i64 m.t, .slice A6 m.b.length c6] 31)
                have hD := Box3.new w6 (.int .i64 m.f) (.int .i64 m.t) (.slice A6 m.b.length c6)
                have hs7 : (w6.alloc (.cells #[.int .i64 m.f, .int .i64 m.t, .slice A6 m.b.length c6] 31)).heap.size = w6.heap.size + 1 := by simp
                have hB := hB.below hal
                have hbl := hbl.trans (hal.mono hbl.size)
                have hP := hP.below hal
                have hO2 := hO2.below hal
                have hC := hC.below hal
                have hO6 := hO6.below hal
                clear hal
                obtain ⟨⟨q0, q1, q2, q3, q4, q5⟩, q6⟩ := hB.bx
                obtain ⟨⟨r0, r1, r2⟩, _, _, _⟩ := hC.bx
                obtain ⟨⟨t0, t1, t2⟩, _, _, _⟩ := hD.bx
                have s2 := hO2.str
                have s6 := hO6.str
                go_wp2_with fail
                clear q0 q1 q2 q3 q4 q5 q6 r0 r1 r2 t0 t1 t2 s2 s6
                generalize w6.alloc (.cells #[.int .i64 m.f, .int .i64 m.t, .slice A6 m.b.length c6] 31) = W7 at *
                refine (trim_cut W7 on ok2 ox (by omega) (by omega) hP hxn hml hlen2).mono ?_
                rintro e w9 ⟨rfl, hp9, ht9⟩
                have hB := hB.turn ht9 (fun h => by (try unfold grow at h); omega)
                have hbl := hbl.trans (ht9.below (B := w.heap.size) (fun b hb h => by (try unfold grow at h); omega) hbl.size)
                have hO2 := hO2.turn ht9 (fun b hb h => by (try unfold grow at h); omega)
                have hC := hC.turn ht9 (fun h => by (try unfold grow at h); omega)
                have hO6 := hO6.turn ht9 (fun b hb h => by (try unfold grow at h); omega)
                have hD := hD.turn ht9 (fun h => by (try unfold grow at h); omega)
                have hP := hp9
                clear ht9 hp9
                have hy := under_keep (m' := { m with b := cutOf m.b ox }) hxn hnew hne
                have hbn := HIr.out.bnd.snoc (m := ⟨m.f, m.t, m.b, false⟩) hml
                have hbn := hbn.set (m := { m with b := cutOf m.b ox }) (Nat.le_trans (cutOf_le _ _) hml) ((on : Int).toNat - 1)
                have hll : ((All ++ [(⟨m.f, m.t, m.b, false⟩ : Md)]).set ((on : Int).toNat - 1) { m with b := cutOf m.b ox }).length = All.length + 1 := by simp
                generalize (All ++ [(⟨m.f, m.t, m.b, false⟩ : Md)]).set ((on : Int).toNat - 1) { m with b := cutOf m.b ox } = All2 at *
                obtain ⟨⟨q0, q1, q2, q3, q4, q5⟩, q6⟩ := hB.bx
                go_wp2_with fail
                obtain ⟨x2, hx2⟩ : ∃ x, under All2 on = x := ⟨_, rfl⟩
                have hx3 : (x2.getD md0).b.length ≤ 140737488355328 := by cases x2 with | none => decide | some m2 => exact hbn m2 (under_mem hx2)
                refine (drop_calls w9 on ok2 hP hx2 hx3).mono ?_
                rintro e w10 ⟨rfl, hp10, ht10⟩
                have hB := hB.turn ht10 (fun h => by (try unfold grow at h); omega)
                have hbl := hbl.trans (ht10.below (B := w.heap.size) (fun b hb h => by (try unfold grow at h); omega) hbl.size)
                have hO2 := hO2.turn ht10 (fun b hb h => by (try unfold grow at h); omega)
                have hC := hC.turn ht10 (fun h => by (try unfold grow at h); omega)
                have hO6 := hO6.turn ht10 (fun b hb h => by (try unfold grow at h); omega)
                have hD := hD.turn ht10 (fun h => by (try unfold grow at h); omega)
                have hP := hp10
                clear ht10 hp10 q0 q1 q2 q3 q4 q5 q6
                have hy := under_left (x := on) hy hne
                have hbn := hbn.spent on
                have hll := (spentAt_length All2 on).trans hll
                generalize spentAt All2 on = All3 at *
                go_wp2_with fail
                refine (look_some w10 (All.length + 1) hnl hP hy hml).mono ?_
                rintro e w11 ⟨A11, c11, rfl, ho11, hb11⟩
                have hO11 := ho11.bys
                have hs10 := hbl.size
                have hB := hB.below hb11
                have hbl := hbl.trans (hb11.mono hbl.size)
                have hP := hP.below hb11
                have hO2 := hO2.below hb11
                have hC := hC.below hb11
                have hO6 := hO6.below hb11
                have hD := hD.below hb11
                clear ho11 hb11
                have hal := (Below.refl w11.heap.size w11).alloc (Nat.le_refl _) (.cells #[.int .i64 m.f, .int .i64 m.t, .slice A11 m.b.length c11] 31)
                have hE := Box3.new w11 (.int .i64 m.f) (.int .i64 m.t) (.slice A11 m.b.length c11)
                have hB := hB.below hal
                have hbl := hbl.trans (hal.mono hbl.size)
                have hP := hP.below hal
                have hO2 := hO2.below hal
                have hC := hC.below hal
                have hO6 := hO6.below hal
                have hD := hD.below hal
                have hO11 := hO11.below hal
                clear hal
                obtain ⟨⟨r0, r1, r2⟩, _, _, _⟩ := hC.bx
                obtain ⟨⟨t0, t1, t2⟩, _, _, _⟩ := hE.bx
                have s2 := hO2.str
                have s6 := hO11.str
                have HI6 := Lib.hid (show Inv w (w11.alloc (.cells #[.int .i64 m.f, .int .i64 m.t, .slice A11 m.b.length c11] 31)) pb All3 (i + 1) from ⟨hP.mono fun b hb => by unfold grow at hb; omega, hbl, by have := HIr.out.len; omega, hbn⟩)
                clear hP hB hC hD hE hO2 hO6 hO11 hbl hbn
                go_wp2
                go_roundg (n - (i + 1))
                case measure => have := HQ.out; omega
                case rel => exact ⟨i + 1, _, by omega, by go_num, rfl, HI6⟩
              · have hk4' : (ok == 4) = false := by simpa using hk4
                go_wp2_with fail
                have hal := (Below.refl wr.heap.size wr).alloc (Nat.le_refl _) (.cells #[.int .i64 ok, .bool false, .int .i64 on, .int .i64 ox, .int .i64 oy, .slice bA ob.length bc] 28)
                have hB := Box6.new wr ok false on ox oy (.slice bA ob.length bc)
                have hP := HP0.out.below hal
                have hbl := HIr.out.bl.trans (hal.mono HIr.out.bl.size)
                have hs1 : (wr.alloc (.cells #[.int .i64 ok, .bool false, .int .i64 on, .int .i64 ox, .int .i64 oy, .slice bA ob.length bc] 28)).heap.size = wr.heap.size + 1 := by simp
                have hs0 := HIr.out.bl.size
                clear hal
                generalize wr.alloc (.cells #[.int .i64 ok, .bool false, .int .i64 on, .int .i64 ox, .int .i64 oy, .slice bA ob.length bc] 28) = W1 at *
                have hml := HIr.out.bnd m (under_mem hx)
                refine (look_some W1 on ok2 hP hx hml).mono ?_
                rintro e w2 ⟨A2, c2, rfl, ho2, hb2⟩
                have hO2 := ho2.bys
                have hB := hB.below hb2
                have hbl := hbl.trans (hb2.mono hbl.size)
                have hP := hP.below hb2
                have hs2 := hb2.size
                clear ho2 hb2
                go_wp2_with fail
                have hal := (Below.refl w2.heap.size w2).alloc (Nat.le_refl _) (.cells #[.int .i64 m.f, .int .i64 m.t, .slice A2 m.b.length c2] 31)
                have hC := Box3.new w2 (.int .i64 m.f) (.int .i64 m.t) (.slice A2 m.b.length c2)
                have hs3 : (w2.alloc (.cells #[.int .i64 m.f, .int .i64 m.t, .slice A2 m.b.length c2] 31)).heap.size = w2.heap.size + 1 := by simp
                have hB := hB.below hal
                have hbl := hbl.trans (hal.mono hbl.size)
                have hP := hP.below hal
                have hO2 := hO2.below hal
                clear hal
                generalize w2.alloc (.cells #[.int .i64 m.f, .int .i64 m.t, .slice A2 m.b.length c2] 31) = W3 at *
                refine (made_calls W3 hP).mono ?_
                rintro e w4 ⟨rfl, hb4⟩
                have hs4 := hb4.size
                have hB := hB.below hb4
                have hbl := hbl.trans (hb4.mono hbl.size)
                have hP := hP.below hb4
                have hO2 := hO2.below hb4
                have hC := hC.below hb4
                clear hb4
                obtain ⟨⟨q0, q1, q2, q3, q4, q5⟩, q6⟩ := hB.bx
                go_wp2_with fail
                refine (copy_some w4 on ok2 hP hx hml hlen').mono ?_
                rintro e w5 ⟨rfl, hp5, ht5⟩
                have hB := hB.turn ht5 (fun h => by (try unfold grow at h); omega)
                have hbl := hbl.trans (ht5.below (B := w.heap.size) (fun b hb h => by (try unfold grow at h); omega) hbl.size)
                have hO2 := hO2.turn ht5 (fun b hb h => by (try unfold grow at h); omega)
                have hC := hC.turn ht5 (fun h => by (try unfold grow at h); omega)
                have hP := hp5.bd
                have hs5 := ht5.size
                clear ht5 hp5 q0 q1 q2 q3 q4 q5 q6
                go_wp2_with fail
                refine (look_some w5 (All.length + 1) hnl hP hnew hml).mono ?_
                rintro e w6 ⟨A6, c6, rfl, ho6, hb6⟩
                have hO6 := ho6.bys
                have hB := hB.below hb6
                have hbl := hbl.trans (hb6.mono hbl.size)
                have hP := hP.below hb6
                have hO2 := hO2.below hb6
                have hC := hC.below hb6
                have hs6 := hb6.size
                clear ho6 hb6
                have hal := (Below.refl w6.heap.size w6).alloc (Nat.le_refl _) (.cells #[.int .i64 m.f, .int .i64 m.t, .slice A6 m.b.length c6] 31)
                have hD := Box3.new w6 (.int .i64 m.f) (.int .i64 m.t) (.slice A6 m.b.length c6)
                have hs7 : (w6.alloc (.cells #[.int .i64 m.f, .int .i64 m.t, .slice A6 m.b.length c6] 31)).heap.size = w6.heap.size + 1 := by simp
                have hB := hB.below hal
                have hbl := hbl.trans (hal.mono hbl.size)
                have hP := hP.below hal
                have hO2 := hO2.below hal
                have hC := hC.below hal
                have hO6 := hO6.below hal
                clear hal
                obtain ⟨⟨q0, q1, q2, q3, q4, q5⟩, q6⟩ := hB.bx
                obtain ⟨⟨r0, r1, r2⟩, _, _, _⟩ := hC.bx
                obtain ⟨⟨t0, t1, t2⟩, _, _, _⟩ := hD.bx
                have s2 := hO2.str
                have s6 := hO6.str
                go_wp2_with fail
                clear q0 q1 q2 q3 q4 q5 q6 r0 r1 r2 t0 t1 t2 s2 s6
                generalize w6.alloc (.cells #[.int .i64 m.f, .int .i64 m.t, .slice A6 m.b.length c6] 31) = W7 at *
                refine (trim_cut W7 on ok2 ox (by omega) (by omega) hP hxn hml hlen2).mono ?_
                rintro e w9 ⟨rfl, hp9, ht9⟩
                have hB := hB.turn ht9 (fun h => by (try unfold grow at h); omega)
                have hbl := hbl.trans (ht9.below (B := w.heap.size) (fun b hb h => by (try unfold grow at h); omega) hbl.size)
                have hO2 := hO2.turn ht9 (fun b hb h => by (try unfold grow at h); omega)
                have hC := hC.turn ht9 (fun h => by (try unfold grow at h); omega)
                have hO6 := hO6.turn ht9 (fun b hb h => by (try unfold grow at h); omega)
                have hD := hD.turn ht9 (fun h => by (try unfold grow at h); omega)
                have hP := hp9
                clear ht9 hp9
                have hy := under_keep (m' := { m with b := cutOf m.b ox }) hxn hnew hne
                have hbn := HIr.out.bnd.snoc (m := ⟨m.f, m.t, m.b, false⟩) hml
                have hbn := hbn.set (m := { m with b := cutOf m.b ox }) (Nat.le_trans (cutOf_le _ _) hml) ((on : Int).toNat - 1)
                have hll : ((All ++ [(⟨m.f, m.t, m.b, false⟩ : Md)]).set ((on : Int).toNat - 1) { m with b := cutOf m.b ox }).length = All.length + 1 := by simp
                generalize (All ++ [(⟨m.f, m.t, m.b, false⟩ : Md)]).set ((on : Int).toNat - 1) { m with b := cutOf m.b ox } = All2 at *
                obtain ⟨⟨q0, q1, q2, q3, q4, q5⟩, q6⟩ := hB.bx
                go_wp2_with fail
                clear q0 q1 q2 q3 q4 q5 q6
                refine (look_some w9 (All.length + 1) hnl hP hy hml).mono ?_
                rintro e w11 ⟨A11, c11, rfl, ho11, hb11⟩
                have hO11 := ho11.bys
                have hs10 := hbl.size
                have hB := hB.below hb11
                have hbl := hbl.trans (hb11.mono hbl.size)
                have hP := hP.below hb11
                have hO2 := hO2.below hb11
                have hC := hC.below hb11
                have hO6 := hO6.below hb11
                have hD := hD.below hb11
                clear ho11 hb11
                have hal := (Below.refl w11.heap.size w11).alloc (Nat.le_refl _) (.cells #[.int .i64 m.f, .int .i64 m.t, .slice A11 m.b.length c11] 31)
                have hE := Box3.new w11 (.int .i64 m.f) (.int .i64 m.t) (.slice A11 m.b.length c11)
                have hB := hB.below hal
                have hbl := hbl.trans (hal.mono hbl.size)
                have hP := hP.below hal
                have hO2 := hO2.below hal
                have hC := hC.below hal
                have hO6 := hO6.below hal
                have hD := hD.below hal
                have hO11 := hO11.below hal
                clear hal
                obtain ⟨⟨r0, r1, r2⟩, _, _, _⟩ := hC.bx
                obtain ⟨⟨t0, t1, t2⟩, _, _, _⟩ := hE.bx
                have s2 := hO2.str
                have s6 := hO11.str
                have HI6 := Lib.hid (show Inv w (w11.alloc (.cells #[.int .i64 m.f, .int .i64 m.t, .slice A11 m.b.length c11] 31)) pb All2 (i + 1) from ⟨hP.mono fun b hb => by unfold grow at hb; omega, hbl, by have := HIr.out.len; omega, hbn⟩)
                clear hP hB hC hD hE hO2 hO6 hO11 hbl hbn
                go_wp2
                go_roundg (n - (i + 1))
                case measure => have := HQ.out; omega
                case rel => exact ⟨i + 1, _, by omega, by go_num, rfl, HI6⟩
          | true =>
            by_cases hcut : ox < 1
            · by_cases hk4 : ok = 4
              · subst hk4
                go_wp2_with fail
                have hal := (Below.refl wr.heap.size wr).alloc (Nat.le_refl _) (.cells #[.int .i64 4, .bool true, .int .i64 on, .int .i64 ox, .int .i64 oy, .slice bA ob.length bc] 28)
                have hB := Box6.new wr 4 true on ox oy (.slice bA ob.length bc)
                have hP := HP0.out.below hal
                have hbl := HIr.out.bl.trans (hal.mono HIr.out.bl.size)
                have hs1 : (wr.alloc (.cells #[.int .i64 4, .bool true, .int .i64 on, .int .i64 ox, .int .i64 oy, .slice bA ob.length bc] 28)).heap.size = wr.heap.size + 1 := by simp
                have hs0 := HIr.out.bl.size
                clear hal
                generalize wr.alloc (.cells #[.int .i64 4, .bool true, .int .i64 on, .int .i64 ox, .int .i64 oy, .slice bA ob.length bc] 28) = W1 at *
                have hml := HIr.out.bnd m (under_mem hx)
                refine (look_some W1 on ok2 hP hx hml).mono ?_
                rintro e w2 ⟨A2, c2, rfl, ho2, hb2⟩
                have hO2 := ho2.bys
                have hB := hB.below hb2
                have hbl := hbl.trans (hb2.mono hbl.size)
                have hP := hP.below hb2
                have hs2 := hb2.size
                clear ho2 hb2
                go_wp2_with fail
                have hal := (Below.refl w2.heap.size w2).alloc (Nat.le_refl _) (.cells #[.int .i64 m.f, .int .i64 m.t, .slice A2 m.b.length c2] 31)
                have hC := Box3.new w2 (.int .i64 m.f) (.int .i64 m.t) (.slice A2 m.b.length c2)
                have hs3 : (w2.alloc (.cells #[.int .i64 m.f, .int .i64 m.t, .slice A2 m.b.length c2] 31)).heap.size = w2.heap.size + 1 := by simp
                have hB := hB.below hal
                have hbl := hbl.trans (hal.mono hbl.size)
                have hP := hP.below hal
                have hO2 := hO2.below hal
                clear hal
                generalize w2.alloc (.cells #[.int .i64 m.f, .int .i64 m.t, .slice A2 m.b.length c2] 31) = W3 at *
                refine (made_calls W3 hP).mono ?_
                rintro e w4 ⟨rfl, hb4⟩
                have hs4 := hb4.size
                have hB := hB.below hb4
                have hbl := hbl.trans (hb4.mono hbl.size)
                have hP := hP.below hb4
                have hO2 := hO2.below hb4
                have hC := hC.below hb4
                clear hb4
                obtain ⟨⟨q0, q1, q2, q3, q4, q5⟩, q6⟩ := hB.bx
                go_wp2_with fail
                refine (copy_some w4 on ok2 hP hx hml hlen').mono ?_
                rintro e w5 ⟨rfl, hp5, ht5⟩
                have hB := hB.turn ht5 (fun h => by (try unfold grow at h); omega)
                have hbl := hbl.trans (ht5.below (B := w.heap.size) (fun b hb h => by (try unfold grow at h); omega) hbl.size)
                have hO2 := hO2.turn ht5 (fun b hb h => by (try unfold grow at h); omega)
                have hC := hC.turn ht5 (fun h => by (try unfold grow at h); omega)
                have hP := hp5.bd
                have hs5 := ht5.size
                clear ht5 hp5 q0 q1 q2 q3 q4 q5 q6
                go_wp2_with fail
                refine (look_some w5 (All.length + 1) hnl hP hnew hml).mono ?_
                rintro e w6 ⟨A6, c6, rfl, ho6, hb6⟩
                have hO6 := ho6.bys
                have hB := hB.below hb6
                have hbl := hbl.trans (hb6.mono hbl.size)
                have hP := hP.below hb6
                have hO2 := hO2.below hb6
                have hC := hC.below hb6
                have hs6 := hb6.size
                clear ho6 hb6
                have hal := (Below.refl w6.heap.size w6).alloc (Nat.le_refl _) (.cells #[.int .i64 m.f, .int .i64 m.t, .slice A6 m.b.length c6] 31)
                have hD := Box3.new w6 (.int .i64 m.f) (.int .i64 m.t) (.slice A6 m.b.length c6)
                have hs7 : (w6.alloc (.cells #[.int .i64 m.f, .int .i64 m.t, .slice A6 m.b.length c6] 31)).heap.size = w6.heap.size + 1 := by simp
                have hB := hB.below hal
                have hbl := hbl.trans (hal.mono hbl.size)
                have hP := hP.below hal
                have hO2 := hO2.below hal
                have hC := hC.below hal
                have hO6 := hO6.below hal
                clear hal
                obtain ⟨⟨q0, q1, q2, q3, q4, q5⟩, q6⟩ := hB.bx
                obtain ⟨⟨r0, r1, r2⟩, _, _, _⟩ := hC.bx
                obtain ⟨⟨t0, t1, t2⟩, _, _, _⟩ := hD.bx
                have s2 := hO2.str
                have s6 := hO6.str
                go_wp2_with fail
                clear q0 q1 q2 q3 q4 q5 q6 r0 r1 r2 t0 t1 t2 s2 s6
                generalize w6.alloc (.cells #[.int .i64 m.f, .int .i64 m.t, .slice A6 m.b.length c6] 31) = W7 at *
                have hsw : Turn (fun b => b = wr.heap.size) W7 (W7.setCell ⟨wr.heap.size, 2, none⟩ (.int .i64 (All.length + 1))) := Turn.setCell _ _ _ rfl
                have hB := hB.set2 (All.length + 1)
                have hC := hC.turn hsw (fun h => by omega)
                have hD := hD.turn hsw (fun h => by omega)
                have hO2 := hO2.turn hsw (fun b hb h => by omega)
                have hO6 := hO6.turn hsw (fun b hb h => by omega)
                have hP := hP.loc (fun b hb hlt => hsw.block b hlt (fun h => by unfold grow at hb; omega))
                have hbl := hbl.trans (hsw.below (B := w.heap.size) (fun b hb h => by omega) hbl.size)
                clear hsw
                generalize W7.setCell ⟨wr.heap.size, 2, none⟩ (.int .i64 (All.length + 1)) = W8 at *
                refine (trim_cut W8 (All.length + 1) hnl 1 (by omega) (by omega) hP hnew hml hlen2).mono ?_
                rintro e w9 ⟨rfl, hp9, ht9⟩
                have hB := hB.turn ht9 (fun h => by (try unfold grow at h); omega)
                have hbl := hbl.trans (ht9.below (B := w.heap.size) (fun b hb h => by (try unfold grow at h); omega) hbl.size)
                have hO2 := hO2.turn ht9 (fun b hb h => by (try unfold grow at h); omega)
                have hC := hC.turn ht9 (fun h => by (try unfold grow at h); omega)
                have hO6 := hO6.turn ht9 (fun b hb h => by (try unfold grow at h); omega)
                have hD := hD.turn ht9 (fun h => by (try unfold grow at h); omega)
                have hP := hp9
                clear ht9 hp9
                have hy := under_keep (m' := { (⟨m.f, m.t, m.b, false⟩ : Md) with b := cutOf m.b 1 }) hnew hxn (Ne.symm hne)
                have hbn := HIr.out.bnd.snoc (m := ⟨m.f, m.t, m.b, false⟩) hml
                have hbn := hbn.set (m := { (⟨m.f, m.t, m.b, false⟩ : Md) with b := cutOf m.b 1 }) (Nat.le_trans (cutOf_le _ _) hml) (((All.length + 1) : Int).toNat - 1)
                have hll : ((All ++ [(⟨m.f, m.t, m.b, false⟩ : Md)]).set (((All.length + 1) : Int).toNat - 1) { (⟨m.f, m.t, m.b, false⟩ : Md) with b := cutOf m.b 1 }).length = All.length + 1 := by simp
                generalize (All ++ [(⟨m.f, m.t, m.b, false⟩ : Md)]).set (((All.length + 1) : Int).toNat - 1) { (⟨m.f, m.t, m.b, false⟩ : Md) with b := cutOf m.b 1 } = All2 at *
                obtain ⟨⟨q0, q1, q2, q3, q4, q5⟩, q6⟩ := hB.bx
                go_wp2_with fail
                obtain ⟨x2, hx2⟩ : ∃ x, under All2 (All.length + 1) = x := ⟨_, rfl⟩
                have hx3 : (x2.getD md0).b.length ≤ 140737488355328 := by cases x2 with | none => decide | some m2 => exact hbn m2 (under_mem hx2)
                refine (drop_calls w9 (All.length + 1) hnl hP hx2 hx3).mono ?_
                rintro e w10 ⟨rfl, hp10, ht10⟩
                have hB := hB.turn ht10 (fun h => by (try unfold grow at h); omega)
                have hbl := hbl.trans (ht10.below (B := w.heap.size) (fun b hb h => by (try unfold grow at h); omega) hbl.size)
                have hO2 := hO2.turn ht10 (fun b hb h => by (try unfold grow at h); omega)
                have hC := hC.turn ht10 (fun h => by (try unfold grow at h); omega)
                have hO6 := hO6.turn ht10 (fun b hb h => by (try unfold grow at h); omega)
                have hD := hD.turn ht10 (fun h => by (try unfold grow at h); omega)
                have hP := hp10
                clear ht10 hp10 q0 q1 q2 q3 q4 q5 q6
                have hy := under_left (x := (All.length + 1)) hy (Ne.symm hne)
                have hbn := hbn.spent (All.length + 1)
                have hll := (spentAt_length All2 (All.length + 1)).trans hll
                generalize spentAt All2 (All.length + 1) = All3 at *
                go_wp2_with fail
                refine (look_some w10 on ok2 hP hy hml).mono ?_
                rintro e w11 ⟨A11, c11, rfl, ho11, hb11⟩
                have hO11 := ho11.bys
                have hs10 := hbl.size
                have hB := hB.below hb11
                have hbl := hbl.trans (hb11.mono hbl.size)
                have hP := hP.below hb11
                have hO2 := hO2.below hb11
                have hC := hC.below hb11
                have hO6 := hO6.below hb11
                have hD := hD.below hb11
                clear ho11 hb11
                have hal := (Below.refl w11.heap.size w11).alloc (Nat.le_refl _) (.cells #[.int .i64 m.f, .int .i64 m.t, .slice A11 m.b.length c11] 31)
                have hE := Box3.new w11 (.int .i64 m.f) (.int .i64 m.t) (.slice A11 m.b.length c11)
                have hB := hB.below hal
                have hbl := hbl.trans (hal.mono hbl.size)
                have hP := hP.below hal
                have hO2 := hO2.below hal
                have hC := hC.below hal
                have hO6 := hO6.below hal
                have hD := hD.below hal
                have hO11 := hO11.below hal
                clear hal
                obtain ⟨⟨r0, r1, r2⟩, _, _, _⟩ := hC.bx
                obtain ⟨⟨t0, t1, t2⟩, _, _, _⟩ := hE.bx
                have s2 := hO2.str
                have s6 := hO11.str
                have HI6 := Lib.hid (show Inv w (w11.alloc (.cells #[.int .i64 m.f, .int .i64 m.t, .slice A11 m.b.length c11] 31)) pb All3 (i + 1) from ⟨hP.mono fun b hb => by unfold grow at hb; omega, hbl, by have := HIr.out.len; omega, hbn⟩)
                clear hP hB hC hD hE hO2 hO6 hO11 hbl hbn
                go_wp2
                go_roundg (n - (i + 1))
                case measure => have := HQ.out; omega
                case rel => exact ⟨i + 1, _, by omega, by go_num, rfl, HI6⟩
              · have hk4' : (ok == 4) = false := by simpa using hk4
                go_wp2_with fail
                have hal := (Below.refl wr.heap.size wr).alloc (Nat.le_refl _) (.cells #[.int .i64 ok, .bool true, .int .i64 on, .int .i64 ox, .int .i64 oy, .slice bA ob.length bc] 28)
                have hB := Box6.new wr ok true on ox oy (.slice bA ob.length bc)
                have hP := HP0.out.below hal
                have hbl := HIr.out.bl.trans (hal.mono HIr.out.bl.size)
                have hs1 : (wr.alloc (.cells #[.int .i64 ok, .bool true, .int .i64 on, .int .i64 ox, .int .i64 oy, .slice bA ob.length bc] 28)).heap.size = wr.heap.size + 1 := by simp
                have hs0 := HIr.out.bl.size
                clear hal
                generalize wr.alloc (.cells #[.int .i64 ok, .bool true, .int .i64 on, .int .i64 ox, .int .i64 oy, .slice bA ob.length bc] 28) = W1 at *
                have hml := HIr.out.bnd m (under_mem hx)
                refine (look_some W1 on ok2 hP hx hml).mono ?_
                rintro e w2 ⟨A2, c2, rfl, ho2, hb2⟩
                have hO2 := ho2.bys
                have hB := hB.below hb2
                have hbl := hbl.trans (hb2.mono hbl.size)
                have hP := hP.below hb2
                have hs2 := hb2.size
                clear ho2 hb2
                go_wp2_with fail
                have hal := (Below.refl w2.heap.size w2).alloc (Nat.le_refl _) (.cells #[.int .i64 m.f, .int .i64 m.t, .slice A2 m.b.length c2] 31)
                have hC := Box3.new w2 (.int .i64 m.f) (.int .i64 m.t) (.slice A2 m.b.length c2)
                have hs3 : (w2.alloc (.cells #[.int .i64 m.f, .int .i64 m.t, .slice A2 m.b.length c2] 31)).heap.size = w2.heap.size + 1 := by simp
                have hB := hB.below hal
                have hbl := hbl.trans (hal.mono hbl.size)
                have hP := hP.below hal
                have hO2 := hO2.below hal
                clear hal
                generalize w2.alloc (.cells #[.int .i64 m.f, .int .i64 m.t, .slice A2 m.b.length c2] 31) = W3 at *
                refine (made_calls W3 hP).mono ?_
                rintro e w4 ⟨rfl, hb4⟩
                have hs4 := hb4.size
                have hB := hB.below hb4
                have hbl := hbl.trans (hb4.mono hbl.size)
                have hP := hP.below hb4
                have hO2 := hO2.below hb4
                have hC := hC.below hb4
                clear hb4
                obtain ⟨⟨q0, q1, q2, q3, q4, q5⟩, q6⟩ := hB.bx
                go_wp2_with fail
                refine (copy_some w4 on ok2 hP hx hml hlen').mono ?_
                rintro e w5 ⟨rfl, hp5, ht5⟩
                have hB := hB.turn ht5 (fun h => by (try unfold grow at h); omega)
                have hbl := hbl.trans (ht5.below (B := w.heap.size) (fun b hb h => by (try unfold grow at h); omega) hbl.size)
                have hO2 := hO2.turn ht5 (fun b hb h => by (try unfold grow at h); omega)
                have hC := hC.turn ht5 (fun h => by (try unfold grow at h); omega)
                have hP := hp5.bd
                have hs5 := ht5.size
                clear ht5 hp5 q0 q1 q2 q3 q4 q5 q6
                go_wp2_with fail
                refine (look_some w5 (All.length + 1) hnl hP hnew hml).mono ?_
                rintro e w6 ⟨A6, c6, rfl, ho6, hb6⟩
                have hO6 := ho6.bys
                have hB := hB.below hb6
                have hbl := hbl.trans (hb6.mono hbl.size)
                have hP := hP.below hb6
                have hO2 := hO2.below hb6
                have hC := hC.below hb6
                have hs6 := hb6.size
                clear ho6 hb6
                have hal := (Below.refl w6.heap.size w6).alloc (Nat.le_refl _) (.cells #[.int .i64 m.f, .int .i64 m.t, .slice A6 m.b.length c6] 31)
                have hD := Box3.new w6 (.int .i64 m.f) (.int .i64 m.t) (.slice A6 m.b.length c6)
                have hs7 : (w6.alloc (.cells #[.int .i64 m.f, .int .i64 m.t, .slice A6 m.b.length c6] 31)).heap.size = w6.heap.size + 1 := by simp
                have hB := hB.below hal
                have hbl := hbl.trans (hal.mono hbl.size)
                have hP := hP.below hal
                have hO2 := hO2.below hal
                have hC := hC.below hal
                have hO6 := hO6.below hal
                clear hal
                obtain ⟨⟨q0, q1, q2, q3, q4, q5⟩, q6⟩ := hB.bx
                obtain ⟨⟨r0, r1, r2⟩, _, _, _⟩ := hC.bx
                obtain ⟨⟨t0, t1, t2⟩, _, _, _⟩ := hD.bx
                have s2 := hO2.str
                have s6 := hO6.str
                go_wp2_with fail
                clear q0 q1 q2 q3 q4 q5 q6 r0 r1 r2 t0 t1 t2 s2 s6
                generalize w6.alloc (.cells #[.int .i64 m.f, .int .i64 m.t, .slice A6 m.b.length c6] 31) = W7 at *
                have hsw : Turn (fun b => b = wr.heap.size) W7 (W7.setCell ⟨wr.heap.size, 2, none⟩ (.int .i64 (All.length + 1))) := Turn.setCell _ _ _ rfl
                have hB := hB.set2 (All.length + 1)
                have hC := hC.turn hsw (fun h => by omega)
                have hD := hD.turn hsw (fun h => by omega)
                have hO2 := hO2.turn hsw (fun b hb h => by omega)
                have hO6 := hO6.turn hsw (fun b hb h => by omega)
                have hP := hP.loc (fun b hb hlt => hsw.block b hlt (fun h => by unfold grow at hb; omega))
                have hbl := hbl.trans (hsw.below (B := w.heap.size) (fun b hb h => by omega) hbl.size)
                clear hsw
                generalize W7.setCell ⟨wr.heap.size, 2, none⟩ (.int .i64 (All.length + 1)) = W8 at *
                refine (trim_cut W8 (All.length + 1) hnl 1 (by omega) (by omega) hP hnew hml hlen2).mono ?_
                rintro e w9 ⟨rfl, hp9, ht9⟩
                have hB := hB.turn ht9 (fun h => by (try unfold grow at h); omega)
                have hbl := hbl.trans (ht9.below (B := w.heap.size) (fun b hb h => by (try unfold grow at h); omega) hbl.size)
                have hO2 := hO2.turn ht9 (fun b hb h => by (try unfold grow at h); omega)
                have hC := hC.turn ht9 (fun h => by (try unfold grow at h); omega)
                have hO6 := hO6.turn ht9 (fun b hb h => by (try unfold grow at h); omega)
                have hD := hD.turn ht9 (fun h => by (try unfold grow at h); omega)
                have hP := hp9
                clear ht9 hp9
                have hy := under_keep (m' := { (⟨m.f, m.t, m.b, false⟩ : Md) with b := cutOf m.b 1 }) hnew hxn (Ne.symm hne)
                have hbn := HIr.out.bnd.snoc (m := ⟨m.f, m.t, m.b, false⟩) hml
                have hbn := hbn.set (m := { (⟨m.f, m.t, m.b, false⟩ : Md) with b := cutOf m.b 1 }) (Nat.le_trans (cutOf_le _ _) hml) (((All.length + 1) : Int).toNat - 1)
                have hll : ((All ++ [(⟨m.f, m.t, m.b, false⟩ : Md)]).set (((All.length + 1) : Int).toNat - 1) { (⟨m.f, m.t, m.b, false⟩ : Md) with b := cutOf m.b 1 }).length = All.length + 1 := by simp
                generalize (All ++ [(⟨m.f, m.t, m.b, false⟩ : Md)]).set (((All.length + 1) : Int).toNat - 1) { (⟨m.f, m.t, m.b, false⟩ : Md) with b := cutOf m.b 1 } = All2 at *
                obtain ⟨⟨q0, q1, q2, q3, q4, q5⟩, q6⟩ := hB.bx
                go_wp2_with fail
                clear q0 q1 q2 q3 q4 q5 q6
                refine (look_some w9 on ok2 hP hy hml).mono ?_
                rintro e w11 ⟨A11, c11, rfl, ho11, hb11⟩
                have hO11 := ho11.bys
                have hs10 := hbl.size
                have hB := hB.below hb11
                have hbl := hbl.trans (hb11.mono hbl.size)
                have hP := hP.below hb11
                have hO2 := hO2.below hb11
                have hC := hC.below hb11
                have hO6 := hO6.below hb11
                have hD := hD.below hb11
                clear ho11 hb11
                have hal := (Below.refl w11.heap.size w11).alloc (Nat.le_refl _) (.cells #[.int .i64 m.f, .int .i64 m.t, .slice A11 m.b.length c11] 31)
                have hE := Box3.new w11 (.int .i64 m.f) (.int .i64 m.t) (.slice A11 m.b.length c11)
                have hB := hB.below hal
                have hbl := hbl.trans (hal.mono hbl.size)
                have hP := hP.below hal
                have hO2 := hO2.below hal
                have hC := hC.below hal
                have hO6 := hO6.below hal
                have hD := hD.below hal
                have hO11 := hO11.below hal
                clear hal
                obtain ⟨⟨r0, r1, r2⟩, _, _, _⟩ := hC.bx
                obtain ⟨⟨t0, t1, t2⟩, _, _, _⟩ := hE.bx
                have s2 := hO2.str
                have s6 := hO11.str
                have HI6 := Lib.hid (show Inv w (w11.alloc (.cells #[.int .i64 m.f, .int .i64 m.t, .slice A11 m.b.length c11] 31)) pb All2 (i + 1) from ⟨hP.mono fun b hb => by unfold grow at hb; omega, hbl, by have := HIr.out.len; omega, hbn⟩)
                clear hP hB hC hD hE hO2 hO6 hO11 hbl hbn
                go_wp2
                go_roundg (n - (i + 1))
                case measure => have := HQ.out; omega
                case rel => exact ⟨i + 1, _, by omega, by go_num, rfl, HI6⟩
            · by_cases hk4 : ok = 4
              · subst hk4
                go_wp2_with fail
                have hal := (Below.refl wr.heap.size wr).alloc (Nat.le_refl _) (.cells #[.int .i64 4, .bool true, .int .i64 on, .int .i64 ox, .int .i64 oy, .slice bA ob.length bc] 28)
                have hB := Box6.new wr 4 true on ox oy (.slice bA ob.length bc)
                have hP := HP0.out.below hal
                have hbl := HIr.out.bl.trans (hal.mono HIr.out.bl.size)
                have hs1 : (wr.alloc (.cells #[.int .i64 4, .bool true, .int .i64 on, .int .i64 ox, .int .i64 oy, .slice bA ob.length bc] 28)).heap.size = wr.heap.size + 1 := by simp
                have hs0 := HIr.out.bl.size
                clear hal
                generalize wr.alloc (.cells #[.int .i64 4, .bool true, .int .i64 on, .int .i64 ox, .int .i64 oy, .slice bA ob.length bc] 28) = W1 at *
                have hml := HIr.out.bnd m (under_mem hx)
                refine (look_some W1 on ok2 hP hx hml).mono ?_
                rintro e w2 ⟨A2, c2, rfl, ho2, hb2⟩
                have hO2 := ho2.bys
                have hB := hB.below hb2
                have hbl := hbl.trans (hb2.mono hbl.size)
                have hP := hP.below hb2
                have hs2 := hb2.size
                clear ho2 hb2
                go_wp2_with fail
                have hal := (Below.refl w2.heap.size w2).alloc (Nat.le_refl _) (.cells #[.int .i64 m.f, .int .i64 m.t, .slice A2 m.b.length c2] 31)
                have hC := Box3.new w2 (.int .i64 m.f) (.int .i64 m.t) (.slice A2 m.b.length c2)
                have hs3 : (w2.alloc (.cells #[.int .i64 m.f, .int .i64 m.t, .slice A2 m.b.length c2] 31)).heap.size = w2.heap.size + 1 := by simp
                have hB := hB.below hal
                have hbl := hbl.trans (hal.mono hbl.size)
                have hP := hP.below hal
                have hO2 := hO2.below hal
                clear hal
                generalize w2.alloc (.cells #[.int .i64 m.f, .int .i64 m.t, .slice A2 m.b.length c2] 31) = W3 at *
                refine (made_calls W3 hP).mono ?_
                rintro e w4 ⟨rfl, hb4⟩
                have hs4 := hb4.size
                have hB := hB.below hb4
                have hbl := hbl.trans (hb4.mono hbl.size)
                have hP := hP.below hb4
                have hO2 := hO2.below hb4
                have hC := hC.below hb4
                clear hb4
                obtain ⟨⟨q0, q1, q2, q3, q4, q5⟩, q6⟩ := hB.bx
                go_wp2_with fail
                refine (copy_some w4 on ok2 hP hx hml hlen').mono ?_
                rintro e w5 ⟨rfl, hp5, ht5⟩
                have hB := hB.turn ht5 (fun h => by (try unfold grow at h); omega)
                have hbl := hbl.trans (ht5.below (B := w.heap.size) (fun b hb h => by (try unfold grow at h); omega) hbl.size)
                have hO2 := hO2.turn ht5 (fun b hb h => by (try unfold grow at h); omega)
                have hC := hC.turn ht5 (fun h => by (try unfold grow at h); omega)
                have hP := hp5.bd
                have hs5 := ht5.size
                clear ht5 hp5 q0 q1 q2 q3 q4 q5 q6
                go_wp2_with fail
                refine (look_some w5 (All.length + 1) hnl hP hnew hml).mono ?_
                rintro e w6 ⟨A6, c6, rfl, ho6, hb6⟩
                have hO6 := ho6.bys
                have hB := hB.below hb6
                have hbl := hbl.trans (hb6.mono hbl.size)
                have hP := hP.below hb6
                have hO2 := hO2.below hb6
                have hC := hC.below hb6
                have hs6 := hb6.size
                clear ho6 hb6
                have hal := (Below.refl w6.heap.size w6).alloc (Nat.le_refl _) (.cells #[.int .i64 m.f, .int .i64 m.t, .slice A6 m.b.length c6] 31)
                have hD := Box3.new w6 (.int .i64 m.f) (.int .i64 m.t) (.slice A6 m.b.length c6)
                have hs7 : (w6.alloc (.cells #[.int .i64 m.f, .int .i64 m.t, .slice A6 m.b.length c6] 31)).heap.size = w6.heap.size + 1 := by simp
                have hB := hB.below hal
                have hbl := hbl.trans (hal.mono hbl.size)
                have hP := hP.below hal
                have hO2 := hO2.below hal
                have hC := hC.below hal
                have hO6 := hO6.below hal
                clear hal
                obtain ⟨⟨q0, q1, q2, q3, q4, q5⟩, q6⟩ := hB.bx
                obtain ⟨⟨r0, r1, r2⟩, _, _, _⟩ := hC.bx
                obtain ⟨⟨t0, t1, t2⟩, _, _, _⟩ := hD.bx
                have s2 := hO2.str
                have s6 := hO6.str
                go_wp2_with fail
                clear q0 q1 q2 q3 q4 q5 q6 r0 r1 r2 t0 t1 t2 s2 s6
                generalize w6.alloc (.cells #[.int .i64 m.f, .int .i64 m.t, .slice A6 m.b.length c6] 31) = W7 at *
                have hsw : Turn (fun b => b = wr.heap.size) W7 (W7.setCell ⟨wr.heap.size, 2, none⟩ (.int .i64 (All.length + 1))) := Turn.setCell _ _ _ rfl
                have hB := hB.set2 (All.length + 1)
                have hC := hC.turn hsw (fun h => by omega)
                have hD := hD.turn hsw (fun h => by omega)
                have hO2 := hO2.turn hsw (fun b hb h => by omega)
                have hO6 := hO6.turn hsw (fun b hb h => by omega)
                have hP := hP.loc (fun b hb hlt => hsw.block b hlt (fun h => by unfold grow at hb; omega))
                have hbl := hbl.trans (hsw.below (B := w.heap.size) (fun b hb h => by omega) hbl.size)
                clear hsw
                generalize W7.setCell ⟨wr.heap.size, 2, none⟩ (.int .i64 (All.length + 1)) = W8 at *
                refine (trim_cut W8 (All.length + 1) hnl ox (by omega) (by omega) hP hnew hml hlen2).mono ?_
                rintro e w9 ⟨rfl, hp9, ht9⟩
                have hB := hB.turn ht9 (fun h => by (try unfold grow at h); omega)
                have hbl := hbl.trans (ht9.below (B := w.heap.size) (fun b hb h => by (try unfold grow at h); omega) hbl.size)
                have hO2 := hO2.turn ht9 (fun b hb h => by (try unfold grow at h); omega)
                have hC := hC.turn ht9 (fun h => by (try unfold grow at h); omega)
                have hO6 := hO6.turn ht9 (fun b hb h => by (try unfold grow at h); omega)
                have hD := hD.turn ht9 (fun h => by (try unfold grow at h); omega)
                have hP := hp9
                clear ht9 hp9
                have hy := under_keep (m' := { (⟨m.f, m.t, m.b, false⟩ : Md) with b := cutOf m.b ox }) hnew hxn (Ne.symm hne)
                have hbn := HIr.out.bnd.snoc (m := ⟨m.f, m.t, m.b, false⟩) hml
                have hbn := hbn.set (m := { (⟨m.f, m.t, m.b, false⟩ : Md) with b := cutOf m.b ox }) (Nat.le_trans (cutOf_le _ _) hml) (((All.length + 1) : Int).toNat - 1)
                have hll : ((All ++ [(⟨m.f, m.t, m.b, false⟩ : Md)]).set (((All.length + 1) : Int).toNat - 1) { (⟨m.f, m.t, m.b, false⟩ : Md) with b := cutOf m.b ox }).length = All.length + 1 := by simp
                generalize (All ++ [(⟨m.f, m.t, m.b, false⟩ : Md)]).set (((All.length + 1) : Int).toNat - 1) { (⟨m.f, m.t, m.b, false⟩ : Md) with b := cutOf m.b ox } = All2 at *
                obtain ⟨⟨q0, q1, q2, q3, q4, q5⟩, q6⟩ := hB.bx
                go_wp2_with fail
                obtain ⟨x2, hx2⟩ : ∃ x, under All2 (All.length + 1) = x := ⟨_, rfl⟩
                have hx3 : (x2.getD md0).b.length ≤ 140737488355328 := by cases x2 with | none => decide | some m2 => exact hbn m2 (under_mem hx2)
                refine (drop_calls w9 (All.length + 1) hnl hP hx2 hx3).mono ?_
                rintro e w10 ⟨rfl, hp10, ht10⟩
                have hB := hB.turn ht10 (fun h => by (try unfold grow at h); omega)
                have hbl := hbl.trans (ht10.below (B := w.heap.size) (fun b hb h => by (try unfold grow at h); omega) hbl.size)
                have hO2 := hO2.turn ht10 (fun b hb h => by (try unfold grow at h); omega)
                have hC := hC.turn ht10 (fun h => by (try unfold grow at h); omega)
                have hO6 := hO6.turn ht10 (fun b hb h => by (try unfold grow at h); omega)
                have hD := hD.turn ht10 (fun h => by (try unfold grow at h); omega)
                have hP := hp10
                clear ht10 hp10 q0 q1 q2 q3 q4 q5 q6
                have hy := under_left (x := (All.length + 1)) hy (Ne.symm hne)
                have hbn := hbn.spent (All.length + 1)
                have hll := (spentAt_length All2 (All.length + 1)).trans hll
                generalize spentAt All2 (All.length + 1) = All3 at *
                go_wp2_with fail
                refine (look_some w10 on ok2 hP hy hml).mono ?_
                rintro e w11 ⟨A11, c11, rfl, ho11, hb11⟩
                have hO11 := ho11.bys
                have hs10 := hbl.size
                have hB := hB.below hb11
                have hbl := hbl.trans (hb11.mono hbl.size)
                have hP := hP.below hb11
                have hO2 := hO2.below hb11
                have hC := hC.below hb11
                have hO6 := hO6.below hb11
                have hD := hD.below hb11
                clear ho11 hb11
                have hal := (Below.refl w11.heap.size w11).alloc (Nat.le_refl _) (.cells #[.int .i64 m.f, .int .i64 m.t, .slice A11 m.b.length c11] 31)
                have hE := Box3.new w11 (.int .i64 m.f) (.int .i64 m.t) (.slice A11 m.b.length c11)
                have hB := hB.below hal
                have hbl := hbl.trans (hal.mono hbl.size)
                have hP := hP.below hal
                have hO2 := hO2.below hal
                have hC := hC.below hal
                have hO6 := hO6.below hal
                have hD := hD.below hal
                have hO11 := hO11.below hal
                clear hal
                obtain ⟨⟨r0, r1, r2⟩, _, _, _⟩ := hC.bx
                obtain ⟨⟨t0, t1, t2⟩, _, _, _⟩ := hE.bx
                have s2 := hO2.str
                have s6 := hO11.str
                have HI6 := Lib.hid (show Inv w (w11.alloc (.cells #[.int .i64 m.f, .int .i64 m.t, .slice A11 m.b.length c11] 31)) pb All3 (i + 1) from ⟨hP.mono fun b hb => by unfold grow at hb; omega, hbl, by have := HIr.out.len; omega, hbn⟩)
                clear hP hB hC hD hE hO2 hO6 hO11 hbl hbn
                go_wp2
                go_roundg (n - (i + 1))
                case measure => have := HQ.out; omega
                case rel => exact ⟨i + 1, _, by omega, by go_num, rfl, HI6⟩
              · have hk4' : (ok == 4) = false := by simpa using hk4
                go_wp2_with fail
                have hal := (Below.refl wr.heap.size wr).alloc (Nat.le_refl _) (.cells #[.int .i64 ok, .bool true, .int .i64 on, .int .i64 ox, .int .i64 oy, .slice bA ob.length bc] 28)
                have hB := Box6.new wr ok true on ox oy (.slice bA ob.length bc)
                have hP := HP0.out.below hal
                have hbl := HIr.out.bl.trans (hal.mono HIr.out.bl.size)
                have hs1 : (wr.alloc (.cells #[.int .i64 ok, .bool true, .int .i64 on, .int .i64 ox, .int .i64 oy, .slice bA ob.length bc] 28)).heap.size = wr.heap.size + 1 := by simp
                have hs0 := HIr.out.bl.size
                clear hal
                generalize wr.alloc (.cells #[.int .i64 ok, .bool true, .int .i64 on, .int .i64 ox, .int .i64 oy, .slice bA ob.length bc] 28) = W1 at *
                have hml := HIr.out.bnd m (under_mem hx)
                refine (look_some W1 on ok2 hP hx hml).mono ?_
                rintro e w2 ⟨A2, c2, rfl, ho2, hb2⟩
                have hO2 := ho2.bys
                have hB := hB.below hb2
                have hbl := hbl.trans (hb2.mono hbl.size)
                have hP := hP.below hb2
                have hs2 := hb2.size
                clear ho2 hb2
                go_wp2_with fail
                have hal := (Below.refl w2.heap.size w2).alloc (Nat.le_refl _) (.cells #[.int .i64 m.f, .int .i64 m.t, .slice A2 m.b.length c2] 31)
                have hC := Box3.new w2 (.int .i64 m.f) (.int .i64 m.t) (.slice A2 m.b.length c2)
                have hs3 : (w2.alloc (.cells #[.int .i64 m.f, .int .i64 m.t, .slice A2 m.b.length c2] 31)).heap.size = w2.heap.size + 1 := by simp
                have hB := hB.below hal
                have hbl := hbl.trans (hal.mono hbl.size)
                have hP := hP.below hal
                have hO2 := hO2.below hal
                clear hal
                generalize w2.alloc (.cells #[.int .i64 m.f, .int .i64 m.t, .slice A2 m.b.length c2] 31) = W3 at *
                refine (made_calls W3 hP).mono ?_
                rintro e w4 ⟨rfl, hb4⟩
                have hs4 := hb4.size
                have hB := hB.below hb4
                have hbl := hbl.trans (hb4.mono hbl.size)
                have hP := hP.below hb4
                have hO2 := hO2.below hb4
                have hC := hC.below hb4
                clear hb4
                obtain ⟨⟨q0, q1, q2, q3, q4, q5⟩, q6⟩ := hB.bx
                go_wp2_with fail
                refine (copy_some w4 on ok2 hP hx hml hlen').mono ?_
                rintro e w5 ⟨rfl, hp5, ht5⟩
                have hB := hB.turn ht5 (fun h => by (try unfold grow at h); omega)
                have hbl := hbl.trans (ht5.below (B := w.heap.size) (fun b hb h => by (try unfold grow at h); omega) hbl.size)
                have hO2 := hO2.turn ht5 (fun b hb h => by (try unfold grow at h); omega)
                have hC := hC.turn ht5 (fun h => by (try unfold grow at h); omega)
                have hP := hp5.bd
                have hs5 := ht5.size
                clear ht5 hp5 q0 q1 q2 q3 q4 q5 q6
                go_wp2_with fail
                refine (look_some w5 (All.length + 1) hnl hP hnew hml).mono ?_
                rintro e w6 ⟨A6, c6, rfl, ho6, hb6⟩
                have hO6 := ho6.bys
                have hB := hB.below hb6
                have hbl := hbl.trans (hb6.mono hbl.size)
                have hP := hP.below hb6
                have hO2 := hO2.below hb6
                have hC := hC.below hb6
                have hs6 := hb6.size
                clear ho6 hb6
                have hal := (Below.refl w6.heap.size w6).alloc (Nat.le_refl _) (.cells #[.int .i64 m.f, .int .i64 m.t, .slice A6 m.b.length c6] 31)
                have hD := Box3.new w6 (.int .i64 m.f) (.int .i64 m.t) (.slice A6 m.b.length c6)
                have hs7 : (w6.alloc (.cells #[.int .i64 m.f, .int .i64 m.t, .slice A6 m.b.length c6] 31)).heap.size = w6.heap.size + 1 := by simp
                have hB := hB.below hal
                have hbl := hbl.trans (hal.mono hbl.size)
                have hP := hP.below hal
                have hO2 := hO2.below hal
                have hC := hC.below hal
                have hO6 := hO6.below hal
                clear hal
                obtain ⟨⟨q0, q1, q2, q3, q4, q5⟩, q6⟩ := hB.bx
                obtain ⟨⟨r0, r1, r2⟩, _, _, _⟩ := hC.bx
                obtain ⟨⟨t0, t1, t2⟩, _, _, _⟩ := hD.bx
                have s2 := hO2.str
                have s6 := hO6.str
                go_wp2_with fail
                clear q0 q1 q2 q3 q4 q5 q6 r0 r1 r2 t0 t1 t2 s2 s6
                generalize w6.alloc (.cells #[.int .i64 m.f, .int .i64 m.t, .slice A6 m.b.length c6] 31) = W7 at *
                have hsw : Turn (fun b => b = wr.heap.size) W7 (W7.setCell ⟨wr.heap.size, 2, none⟩ (.int .i64 (All.length + 1))) := Turn.setCell _ _ _ rfl
                have hB := hB.set2 (All.length + 1)
                have hC := hC.turn hsw (fun h => by omega)
                have hD := hD.turn hsw (fun h => by omega)
                have hO2 := hO2.turn hsw (fun b hb h => by omega)
                have hO6 := hO6.turn hsw (fun b hb h => by omega)
                have hP := hP.loc (fun b hb hlt => hsw.block b hlt (fun h => by unfold grow at hb; omega))
                have hbl := hbl.trans (hsw.below (B := w.heap.size) (fun b hb h => by omega) hbl.size)
                clear hsw
                generalize W7.setCell ⟨wr.heap.size, 2, none⟩ (.int .i64 (All.length + 1)) = W8 at *
                refine (trim_cut W8 (All.length + 1) hnl ox (by omega) (by omega) hP hnew hml hlen2).mono ?_
                rintro e w9 ⟨rfl, hp9, ht9⟩
                have hB := hB.turn ht9 (fun h => by (try unfold grow at h); omega)
                have hbl := hbl.trans (ht9.below (B := w.heap.size) (fun b hb h => by (try unfold grow at h); omega) hbl.size)
                have hO2 := hO2.turn ht9 (fun b hb h => by (try unfold grow at h); omega)
                have hC := hC.turn ht9 (fun h => by (try unfold grow at h); omega)
                have hO6 := hO6.turn ht9 (fun b hb h => by (try unfold grow at h); omega)
                have hD := hD.turn ht9 (fun h => by (try unfold grow at h); omega)
                have hP := hp9
                clear ht9 hp9
                have hy := under_keep (m' := { (⟨m.f, m.t, m.b, false⟩ : Md) with b := cutOf m.b ox }) hnew hxn (Ne.symm hne)
                have hbn := HIr.out.bnd.snoc (m := ⟨m.f, m.t, m.b, false⟩) hml
                have hbn := hbn.set (m := { (⟨m.f, m.t, m.b, false⟩ : Md) with b := cutOf m.b ox }) (Nat.le_trans (cutOf_le _ _) hml) (((All.length + 1) : Int).toNat - 1)
                have hll : ((All ++ [(⟨m.f, m.t, m.b, false⟩ : Md)]).set (((All.length + 1) : Int).toNat - 1) { (⟨m.f, m.t, m.b, false⟩ : Md) with b := cutOf m.b ox }).length = All.length + 1 := by simp
                generalize (All ++ [(⟨m.f, m.t, m.b, false⟩ : Md)]).set (((All.length + 1) : Int).toNat - 1) { (⟨m.f, m.t, m.b, false⟩ : Md) with b := cutOf m.b ox } = All2 at *
                obtain ⟨⟨q0, q1, q2, q3, q4, q5⟩, q6⟩ := hB.bx
                go_wp2_with fail
                clear q0 q1 q2 q3 q4 q5 q6
                refine (look_some w9 on ok2 hP hy hml).mono ?_
                rintro e w11 ⟨A11, c11, rfl, ho11, hb11⟩
                have hO11 := ho11.bys
                have hs10 := hbl.size
                have hB := hB.below hb11
                have hbl := hbl.trans (hb11.mono hbl.size)
                have hP := hP.below hb11
                have hO2 := hO2.below hb11
                have hC := hC.below hb11
                have hO6 := hO6.below hb11
                have hD := hD.below hb11
                clear ho11 hb11
                have hal := (Below.refl w11.heap.size w11).alloc (Nat.le_refl _) (.cells #[.int .i64 m.f, .int .i64 m.t, .slice A11 m.b.length c11] 31)
                have hE := Box3.new w11 (.int .i64 m.f) (.int .i64 m.t) (.slice A11 m.b.length c11)
                have hB := hB.below hal
                have hbl := hbl.trans (hal.mono hbl.size)
                have hP := hP.below hal
                have hO2 := hO2.below hal
                have hC := hC.below hal
                have hO6 := hO6.below hal
                have hD := hD.below hal
                have hO11 := hO11.below hal
                clear hal
                obtain ⟨⟨r0, r1, r2⟩, _, _, _⟩ := hC.bx
                obtain ⟨⟨t0, t1, t2⟩, _, _, _⟩ := hE.bx
                have s2 := hO2.str
                have s6 := hO11.str
                have HI6 := Lib.hid (show Inv w (w11.alloc (.cells #[.int .i64 m.f, .int .i64 m.t, .slice A11 m.b.length c11] 31)) pb All2 (i + 1) from ⟨hP.mono fun b hb => by unfold grow at hb; omega, hbl, by have := HIr.out.len; omega, hbn⟩)
                clear hP hB hC hD hE hO2 hO6 hO11 hbl hbn
                go_wp2
                go_roundg (n - (i + 1))
                case measure => have := HQ.out; omega
                case rel => exact ⟨i + 1, _, by omega, by go_num, rfl, HI6⟩
    · obtain rfl : i = n := by omega
      have hdec : decide ((i : Int) < (i : Int)) = false := decide_eq_false (by omega)
      go_wp2_with (go_at_call 11; refine (made_calls _ HIr.out.pool).mono ?_; rintro e w3 ⟨rfl, hb⟩; have HB3 := Lib.hid (HIr.out.bl.trans (hb.mono HIr.out.bl.size)); clear hb)
      go_ret
      exact ⟨by simp, HB3.out⟩
end Go.Proofs.Ytdgcmihnbkamgaa
